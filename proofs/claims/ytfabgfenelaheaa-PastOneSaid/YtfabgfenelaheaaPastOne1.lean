/- The walk of the law PastOne. -/
import Derived.Test.YtfabgfenelaheaaPastEvt
import Derived.Sort.AtCall
set_option linter.unusedVariables false
namespace Go.Proofs.Ytfabgfenelaheaa
open Go.RowKit

attribute [local go_sem] ite_min ite_max

theorem ev_one' {w : World} {b : Nat} {x y : Int} (hx : U x) (hy : U y) (h0 : w.cell? ⟨b, 0, none⟩ = some (.int .u64 x)) (h1 : w.cell? ⟨b, 1, none⟩ = some (.int .u64 y)) : IsEv w (some ⟨b, 0, none⟩) 1 1 [(x, y)] := by
  refine ⟨rfl, ⟨by omega, by unfold maxLen; omega, fun h => by cases h⟩, ?_, .inr ⟨_, _, rfl, World.block_lt_of_cell? w _ h0, fun i hi => ?_⟩⟩
  · intro i hi; simp at hi; subst hi; exact ⟨hx, hy⟩
  · simp at hi; subst hi; exact ⟨h0, h1⟩

theorem ev_two' {w : World} {b : Nat} {x y z u : Int} (hx : U x) (hy : U y) (hz : U z) (hu : U u) (h0 : w.cell? ⟨b, 0, none⟩ = some (.int .u64 x)) (h1 : w.cell? ⟨b, 1, none⟩ = some (.int .u64 y)) (h2 : w.cell? ⟨b, 2, none⟩ = some (.int .u64 z)) (h3 : w.cell? ⟨b, 3, none⟩ = some (.int .u64 u)) : IsEv w (some ⟨b, 0, none⟩) 2 2 [(x, y), (z, u)] := by
  refine ⟨rfl, ⟨by omega, by unfold maxLen; omega, fun h => by cases h⟩, ?_, .inr ⟨_, _, rfl, World.block_lt_of_cell? w _ h0, fun i hi => ?_⟩⟩
  · intro i hi
    rcases i with _ | _ | i
    · exact ⟨hx, hy⟩
    · exact ⟨hz, hu⟩
    · simp at hi; omega
  · rcases i with _ | _ | i
    · exact ⟨h0, h1⟩
    · exact ⟨h2, h3⟩
    · simp at hi; omega

set_option maxRecDepth 20000 in
set_option maxHeartbeats 8000000 in
theorem kOne (at_ x y d most want : Int) (ha : 0 ≤ at_ ∧ at_ ≤ 4294967295) (hx : 0 ≤ x ∧ x ≤ 4294967295) (hy : 0 ≤ y ∧ y ≤ 4294967295) (hd : 0 ≤ d ∧ d ≤ 4294967295) (hm : U most) (hw : (d < x ∧ want = x - d) ∨ (¬ d < x ∧ want = 0)) (w : World) :
    Calls Try.prog 8 #[.int .u32 at_, .int .u32 x, .int .u32 y, .int .u32 d, .int .u64 most] w fun e w' => e = .returned (.bool true) ∧ Ext w w' := by
  have hm' := hm
  obtain ⟨hm1, hm2⟩ := hm'
  have q1 := one_fill (t := at_) (w := x) (d := d) (by omega) hd.1
  have q2 := two_fill (t := at_) (w := x) (v := y) (d := d) hx hy hd.1
  have q3 := one_conf (t := at_) (w := x) (c := most) (by omega) hm1
  have q4 := two_conf (t := at_) (w := x) (v := y) (c := most) hx hy hm1
  have q1' : pfill [(at_, x)] (at_ + d) = want := by rw [q1]; rcases hw with ⟨h1, h2⟩ | ⟨h1, h2⟩ <;> split <;> omega
  obtain ⟨X, eX⟩ : ∃ X, pfill [(at_, x + y)] (at_ + d) = X := ⟨_, rfl⟩
  obtain ⟨C, eC⟩ : ∃ C, pconf [(at_, x + y)] most = C := ⟨_, rfl⟩
  rw [eX] at q2
  rw [eC] at q4
  obtain ⟨ha1, ha2⟩ := ha
  obtain ⟨hx1, hx2⟩ := hx
  obtain ⟨hy1, hy2⟩ := hy
  obtain ⟨hd1, hd2⟩ := hd
  have uA : U at_ := by unfold U; omega
  have uX : U x := by unfold U; omega
  have uY : U y := by unfold U; omega
  have uS : U (x + y) := by unfold U; omega
  have uN : U (at_ + d) := by unfold U; omega
  have HQ := Lib.hid (And.intro q1' (And.intro q2 (And.intro eX (And.intro q3 (And.intro q4 eC)))))
  have HWX := Lib.hid (show IntKind.u64.wrap x = x by rw [IntKind.wrap_u64]; omega)
  clear q1 q2 q3 q4 q1' eX eC
  obtain ⟨n, en⟩ : ∃ n, at_ + d = n := ⟨_, rfl⟩
  rw [en] at uN HQ
  obtain ⟨s, es⟩ : ∃ s, x + y = s := ⟨_, rfl⟩
  rw [es] at uS HQ
  rcases hw with ⟨h1, rfl⟩ | ⟨h1, rfl⟩
  · have HZ : ∀ W0, Ext w W0 → True := fun _ _ => trivial
    obtain ⟨W0, e0, hx0, a0, a1, b0, b1, s0, s1, o0, o1⟩ : ∃ W0, ((((w.alloc (.cells #[.int .u64 at_, .int .u64 x] 29)).alloc (.cells #[.int .u64 at_, .int .u64 y] 29)).alloc (.cells #[.int .u64 at_, .int .u64 s] 29)).alloc (.cells #[.int .u64 at_, .int .u64 x] 29)) = W0 ∧ Ext w W0 ∧
        W0.cell? ⟨w.heap.size, 0, none⟩ = some (.int .u64 at_) ∧ W0.cell? ⟨w.heap.size, 1, none⟩ = some (.int .u64 x) ∧ W0.cell? ⟨w.heap.size + 1, 0, none⟩ = some (.int .u64 at_) ∧ W0.cell? ⟨w.heap.size + 1, 1, none⟩ = some (.int .u64 y) ∧
        W0.cell? ⟨w.heap.size + 1 + 1, 0, none⟩ = some (.int .u64 at_) ∧ W0.cell? ⟨w.heap.size + 1 + 1, 1, none⟩ = some (.int .u64 s) ∧ W0.cell? ⟨w.heap.size + 1 + 1 + 1, 0, none⟩ = some (.int .u64 at_) ∧ W0.cell? ⟨w.heap.size + 1 + 1 + 1, 1, none⟩ = some (.int .u64 x) :=
      ⟨_, rfl, by repeat (first | exact Ext.refl _ | assumption | apply Ext.drew | apply Ext.alloc | (refine Ext.setCell ?_ (by simp <;> omega) _) | refine Ext.trans ?_ (by assumption)), by go_simp, by go_simp, by go_simp, by go_simp, by go_simp, by go_simp, by go_simp, by go_simp⟩
    have H0 := Lib.hid e0
    clear e0
    have hO := ev_one' uA uX o0 o1
    have C1 := fun (w' : World) (hz : Ext W0 w') => pFill _ _ _ _ n uN w' (hO.below hz)
    have C6 := fun (w' : World) (hz : Ext W0 w') => pConforms _ _ _ _ most hm w' (hO.below hz)
    rw [HQ.out.1] at C1
    rw [HQ.out.2.2.2.1] at C6
    have C2 := fun (w' : World) (b : Nat) (h0 : w'.cell? ⟨b, 0, none⟩ = some (.int .u64 at_)) (h1 : w'.cell? ⟨b, 1, none⟩ = some (.int .u64 x)) (h2 : w'.cell? ⟨b, 2, none⟩ = some (.int .u64 at_)) (h3 : w'.cell? ⟨b, 3, none⟩ = some (.int .u64 y)) => pFill _ _ 2 _ n uN w' (ev_two' uA uX uA uY h0 h1 h2 h3)
    have C3 := fun (w' : World) (b : Nat) (h0 : w'.cell? ⟨b, 0, none⟩ = some (.int .u64 at_)) (h1 : w'.cell? ⟨b, 1, none⟩ = some (.int .u64 s)) => pFill _ _ 1 _ n uN w' (ev_one' uA uS h0 h1)
    have C4 := fun (w' : World) (b : Nat) (h0 : w'.cell? ⟨b, 0, none⟩ = some (.int .u64 at_)) (h1 : w'.cell? ⟨b, 1, none⟩ = some (.int .u64 x)) (h2 : w'.cell? ⟨b, 2, none⟩ = some (.int .u64 at_)) (h3 : w'.cell? ⟨b, 3, none⟩ = some (.int .u64 y)) => pConforms _ _ 2 _ most hm w' (ev_two' uA uX uA uY h0 h1 h2 h3)
    have C5 := fun (w' : World) (b : Nat) (h0 : w'.cell? ⟨b, 0, none⟩ = some (.int .u64 at_)) (h1 : w'.cell? ⟨b, 1, none⟩ = some (.int .u64 s)) => pConforms _ _ 1 _ most hm w' (ev_one' uA uS h0 h1)
    rw [HQ.out.2.1] at C2
    rw [HQ.out.2.2.1] at C3
    rw [HQ.out.2.2.2.2.1] at C4
    rw [HQ.out.2.2.2.2.2] at C5
    have hbl : w.heap.size + 1 + 1 + 1 < W0.heap.size := World.block_lt_of_cell? W0 _ o0
    obtain ⟨bo, ebo⟩ : ∃ x, w.heap.size + 1 + 1 + 1 = x := ⟨_, rfl⟩
    rw [ebo] at C1 C6
    have HBO := Lib.hid ebo
    clear ebo
    have D1 := Lib.hid C1
    have D2 := Lib.hid C2
    have D3 := Lib.hid C3
    have D4 := Lib.hid C4
    have D5 := Lib.hid C5
    have D6 := Lib.hid C6
    have HCs := Lib.hid (And.intro a0 (And.intro a1 (And.intro b0 (And.intro b1 (And.intro s0 s1)))))
    clear C1 C2 C3 C4 C5 C6 hO a0 a1 b0 b1 s0 s1 o0 o1
    go_enter Try.func8, Try.ntmps8
    go_wp2
    rw [H0.out, HBO.out]
    have r0 : ∀ w', Ext W0 w' → w'.cell? ⟨w.heap.size, 0, none⟩ = some (.int .u64 at_) := fun w' hz => hz.reads HCs.out.1
    have r1 : ∀ w', Ext W0 w' → w'.cell? ⟨w.heap.size, 1, none⟩ = some (.int .u64 x) := fun w' hz => hz.reads HCs.out.2.1
    have r2 : ∀ w', Ext W0 w' → w'.cell? ⟨w.heap.size + 1, 0, none⟩ = some (.int .u64 at_) := fun w' hz => hz.reads HCs.out.2.2.1
    have r3 : ∀ w', Ext W0 w' → w'.cell? ⟨w.heap.size + 1, 1, none⟩ = some (.int .u64 y) := fun w' hz => hz.reads HCs.out.2.2.2.1
    have r4 : ∀ w', Ext W0 w' → w'.cell? ⟨w.heap.size + 1 + 1, 0, none⟩ = some (.int .u64 at_) := fun w' hz => hz.reads HCs.out.2.2.2.2.1
    have r5 : ∀ w', Ext W0 w' → w'.cell? ⟨w.heap.size + 1 + 1, 1, none⟩ = some (.int .u64 s) := fun w' hz => hz.reads HCs.out.2.2.2.2.2
    have hwx := HWX.out
    go_region_held3 (Ext W0)
      (first
        | exact Ext.trans (by assumption) hb
        | repeat (first | exact Ext.refl _ | assumption | apply Ext.drew | apply Ext.alloc | (refine Ext.setCell ?_ (by simp <;> omega) _) | refine Ext.trans ?_ (by assumption)))
      (first
        | (go_at_call 17; refine (pKnown _).mono ?_; rintro e w5 ⟨rfl, hb⟩)
        | (go_at_call_has 22 bo; refine (D1.out _ (by assumption)).mono ?_; rintro e w6 ⟨rfl, hb⟩)
        | (go_at_call_has 24 bo; refine (D6.out _ (by assumption)).mono ?_; rintro e w6 ⟨rfl, hb⟩)
        | (go_at_call_has 22 (2 : Nat); refine (D2.out _ _ ?_ ?_ ?_ ?_).mono ?_; (focus (first | (go_simp; done) | (refine hb.reads ?_; go_simp; done))); (focus (first | (go_simp; done) | (refine hb.reads ?_; go_simp; done))); (focus (first | (go_simp; done) | (refine hb.reads ?_; go_simp; done))); (focus (first | (go_simp; done) | (refine hb.reads ?_; go_simp; done))); rintro e w7 ⟨rfl, hb⟩)
        | (go_at_call 22; refine (D3.out _ _ ?_ ?_).mono ?_; (focus (first | (go_simp; done) | (refine hb.reads ?_; go_simp; done))); (focus (first | (go_simp; done) | (refine hb.reads ?_; go_simp; done))); rintro e w8 ⟨rfl, hb⟩)
        | (go_at_call_has 24 (2 : Nat); refine (D4.out _ _ ?_ ?_ ?_ ?_).mono ?_; (focus (first | (go_simp; done) | (refine hb.reads ?_; go_simp; done))); (focus (first | (go_simp; done) | (refine hb.reads ?_; go_simp; done))); (focus (first | (go_simp; done) | (refine hb.reads ?_; go_simp; done))); (focus (first | (go_simp; done) | (refine hb.reads ?_; go_simp; done))); rintro e w9 ⟨rfl, hb⟩)
        | (go_at_call 24; refine (D5.out _ _ ?_ ?_).mono ?_; (focus (first | (go_simp; done) | (refine hb.reads ?_; go_simp; done))); (focus (first | (go_simp; done) | (refine hb.reads ?_; go_simp; done))); rintro e w10 ⟨rfl, hb⟩))
    all_goals go_wp2
    all_goals (go_ret; exact ⟨rfl, by repeat (first | exact Ext.refl _ | assumption | apply Ext.drew | apply Ext.alloc | (refine Ext.setCell ?_ (by simp <;> omega) _) | refine Ext.trans ?_ (by assumption))⟩)
  · have HZ : ∀ W0, Ext w W0 → True := fun _ _ => trivial
    obtain ⟨W0, e0, hx0, a0, a1, b0, b1, s0, s1, o0, o1⟩ : ∃ W0, ((((w.alloc (.cells #[.int .u64 at_, .int .u64 x] 29)).alloc (.cells #[.int .u64 at_, .int .u64 y] 29)).alloc (.cells #[.int .u64 at_, .int .u64 s] 29)).alloc (.cells #[.int .u64 at_, .int .u64 x] 29)) = W0 ∧ Ext w W0 ∧
        W0.cell? ⟨w.heap.size, 0, none⟩ = some (.int .u64 at_) ∧ W0.cell? ⟨w.heap.size, 1, none⟩ = some (.int .u64 x) ∧ W0.cell? ⟨w.heap.size + 1, 0, none⟩ = some (.int .u64 at_) ∧ W0.cell? ⟨w.heap.size + 1, 1, none⟩ = some (.int .u64 y) ∧
        W0.cell? ⟨w.heap.size + 1 + 1, 0, none⟩ = some (.int .u64 at_) ∧ W0.cell? ⟨w.heap.size + 1 + 1, 1, none⟩ = some (.int .u64 s) ∧ W0.cell? ⟨w.heap.size + 1 + 1 + 1, 0, none⟩ = some (.int .u64 at_) ∧ W0.cell? ⟨w.heap.size + 1 + 1 + 1, 1, none⟩ = some (.int .u64 x) :=
      ⟨_, rfl, by repeat (first | exact Ext.refl _ | assumption | apply Ext.drew | apply Ext.alloc | (refine Ext.setCell ?_ (by simp <;> omega) _) | refine Ext.trans ?_ (by assumption)), by go_simp, by go_simp, by go_simp, by go_simp, by go_simp, by go_simp, by go_simp, by go_simp⟩
    have H0 := Lib.hid e0
    clear e0
    have hO := ev_one' uA uX o0 o1
    have C1 := fun (w' : World) (hz : Ext W0 w') => pFill _ _ _ _ n uN w' (hO.below hz)
    have C6 := fun (w' : World) (hz : Ext W0 w') => pConforms _ _ _ _ most hm w' (hO.below hz)
    rw [HQ.out.1] at C1
    rw [HQ.out.2.2.2.1] at C6
    have C2 := fun (w' : World) (b : Nat) (h0 : w'.cell? ⟨b, 0, none⟩ = some (.int .u64 at_)) (h1 : w'.cell? ⟨b, 1, none⟩ = some (.int .u64 x)) (h2 : w'.cell? ⟨b, 2, none⟩ = some (.int .u64 at_)) (h3 : w'.cell? ⟨b, 3, none⟩ = some (.int .u64 y)) => pFill _ _ 2 _ n uN w' (ev_two' uA uX uA uY h0 h1 h2 h3)
    have C3 := fun (w' : World) (b : Nat) (h0 : w'.cell? ⟨b, 0, none⟩ = some (.int .u64 at_)) (h1 : w'.cell? ⟨b, 1, none⟩ = some (.int .u64 s)) => pFill _ _ 1 _ n uN w' (ev_one' uA uS h0 h1)
    have C4 := fun (w' : World) (b : Nat) (h0 : w'.cell? ⟨b, 0, none⟩ = some (.int .u64 at_)) (h1 : w'.cell? ⟨b, 1, none⟩ = some (.int .u64 x)) (h2 : w'.cell? ⟨b, 2, none⟩ = some (.int .u64 at_)) (h3 : w'.cell? ⟨b, 3, none⟩ = some (.int .u64 y)) => pConforms _ _ 2 _ most hm w' (ev_two' uA uX uA uY h0 h1 h2 h3)
    have C5 := fun (w' : World) (b : Nat) (h0 : w'.cell? ⟨b, 0, none⟩ = some (.int .u64 at_)) (h1 : w'.cell? ⟨b, 1, none⟩ = some (.int .u64 s)) => pConforms _ _ 1 _ most hm w' (ev_one' uA uS h0 h1)
    rw [HQ.out.2.1] at C2
    rw [HQ.out.2.2.1] at C3
    rw [HQ.out.2.2.2.2.1] at C4
    rw [HQ.out.2.2.2.2.2] at C5
    have hbl : w.heap.size + 1 + 1 + 1 < W0.heap.size := World.block_lt_of_cell? W0 _ o0
    obtain ⟨bo, ebo⟩ : ∃ x, w.heap.size + 1 + 1 + 1 = x := ⟨_, rfl⟩
    rw [ebo] at C1 C6
    have HBO := Lib.hid ebo
    clear ebo
    have D1 := Lib.hid C1
    have D2 := Lib.hid C2
    have D3 := Lib.hid C3
    have D4 := Lib.hid C4
    have D5 := Lib.hid C5
    have D6 := Lib.hid C6
    have HCs := Lib.hid (And.intro a0 (And.intro a1 (And.intro b0 (And.intro b1 (And.intro s0 s1)))))
    clear C1 C2 C3 C4 C5 C6 hO a0 a1 b0 b1 s0 s1 o0 o1
    go_enter Try.func8, Try.ntmps8
    go_wp2
    rw [H0.out, HBO.out]
    have r0 : ∀ w', Ext W0 w' → w'.cell? ⟨w.heap.size, 0, none⟩ = some (.int .u64 at_) := fun w' hz => hz.reads HCs.out.1
    have r1 : ∀ w', Ext W0 w' → w'.cell? ⟨w.heap.size, 1, none⟩ = some (.int .u64 x) := fun w' hz => hz.reads HCs.out.2.1
    have r2 : ∀ w', Ext W0 w' → w'.cell? ⟨w.heap.size + 1, 0, none⟩ = some (.int .u64 at_) := fun w' hz => hz.reads HCs.out.2.2.1
    have r3 : ∀ w', Ext W0 w' → w'.cell? ⟨w.heap.size + 1, 1, none⟩ = some (.int .u64 y) := fun w' hz => hz.reads HCs.out.2.2.2.1
    have r4 : ∀ w', Ext W0 w' → w'.cell? ⟨w.heap.size + 1 + 1, 0, none⟩ = some (.int .u64 at_) := fun w' hz => hz.reads HCs.out.2.2.2.2.1
    have r5 : ∀ w', Ext W0 w' → w'.cell? ⟨w.heap.size + 1 + 1, 1, none⟩ = some (.int .u64 s) := fun w' hz => hz.reads HCs.out.2.2.2.2.2
    have hwx := HWX.out
    go_region_held3 (Ext W0)
      (first
        | exact Ext.trans (by assumption) hb
        | repeat (first | exact Ext.refl _ | assumption | apply Ext.drew | apply Ext.alloc | (refine Ext.setCell ?_ (by simp <;> omega) _) | refine Ext.trans ?_ (by assumption)))
      (first
        | (go_at_call 17; refine (pKnown _).mono ?_; rintro e w5 ⟨rfl, hb⟩)
        | (go_at_call_has 22 bo; refine (D1.out _ (by assumption)).mono ?_; rintro e w6 ⟨rfl, hb⟩)
        | (go_at_call_has 24 bo; refine (D6.out _ (by assumption)).mono ?_; rintro e w6 ⟨rfl, hb⟩)
        | (go_at_call_has 22 (2 : Nat); refine (D2.out _ _ ?_ ?_ ?_ ?_).mono ?_; (focus (first | (go_simp; done) | (refine hb.reads ?_; go_simp; done))); (focus (first | (go_simp; done) | (refine hb.reads ?_; go_simp; done))); (focus (first | (go_simp; done) | (refine hb.reads ?_; go_simp; done))); (focus (first | (go_simp; done) | (refine hb.reads ?_; go_simp; done))); rintro e w7 ⟨rfl, hb⟩)
        | (go_at_call 22; refine (D3.out _ _ ?_ ?_).mono ?_; (focus (first | (go_simp; done) | (refine hb.reads ?_; go_simp; done))); (focus (first | (go_simp; done) | (refine hb.reads ?_; go_simp; done))); rintro e w8 ⟨rfl, hb⟩)
        | (go_at_call_has 24 (2 : Nat); refine (D4.out _ _ ?_ ?_ ?_ ?_).mono ?_; (focus (first | (go_simp; done) | (refine hb.reads ?_; go_simp; done))); (focus (first | (go_simp; done) | (refine hb.reads ?_; go_simp; done))); (focus (first | (go_simp; done) | (refine hb.reads ?_; go_simp; done))); (focus (first | (go_simp; done) | (refine hb.reads ?_; go_simp; done))); rintro e w9 ⟨rfl, hb⟩)
        | (go_at_call 24; refine (D5.out _ _ ?_ ?_).mono ?_; (focus (first | (go_simp; done) | (refine hb.reads ?_; go_simp; done))); (focus (first | (go_simp; done) | (refine hb.reads ?_; go_simp; done))); rintro e w10 ⟨rfl, hb⟩))
    all_goals go_wp2
    all_goals (go_ret; exact ⟨rfl, by repeat (first | exact Ext.refl _ | assumption | apply Ext.drew | apply Ext.alloc | (refine Ext.setCell ?_ (by simp <;> omega) _) | refine Ext.trans ?_ (by assumption))⟩)

theorem kOneLaw (at_ x y d most : Int) (ha : 0 ≤ at_ ∧ at_ ≤ 4294967295) (hx : 0 ≤ x ∧ x ≤ 4294967295) (hy : 0 ≤ y ∧ y ≤ 4294967295) (hd : 0 ≤ d ∧ d ≤ 4294967295) (hm : U most) (w : World) :
    Calls Try.prog 8 #[.int .u32 at_, .int .u32 x, .int .u32 y, .int .u32 d, .int .u64 most] w fun e w' => e = .returned (.bool true) ∧ Ext w w' := by
  by_cases h : d < x
  · exact kOne at_ x y d most _ ha hx hy hd hm (.inl ⟨h, rfl⟩) w
  · exact kOne at_ x y d most _ ha hx hy hd hm (.inr ⟨h, rfl⟩) w

end Go.Proofs.Ytfabgfenelaheaa
