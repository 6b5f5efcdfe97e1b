/- The slots of a table with no key. -/
import Derived.Test.YtdgcgpapcbjfhaaGreatDoorJ11Rg
import Derived.Laws.IdiomRangeMap
import Derived.Test.YtdgcgpapcbjfhaaGreatDoorJ28StillIn
set_option linter.unusedVariables false
set_option linter.unusedSimpArgs false

/- A table with no key: New, Tick, Clock. -/
namespace Go.Proofs.YtdgcgpapcbjfhaaGreatDoor
open Go.RowKit

attribute [local go_sem] ite_min ite_max

/-- a table in memory -/
structure TabAt (w : World) (t : Nat) (mo : Int) (ck : Int) (mb : Nat) (es : Array MapEntry) (mk : Nat) : Prop where
  c0 : w.cell? ⟨t, 0, none⟩ = some (.int .i64 mo)
  c1 : w.cell? ⟨t, 1, none⟩ = some (.int .u64 ck)
  c2 : w.cell? ⟨t, 2, none⟩ = some (.map (some mb))
  f1 : w.frozen? ⟨t, 1, none⟩ = false
  m : w.heap[mb]? = some (.map es mk)
theorem TabAt.but {X : Nat → Prop} {w w' : World} {t : Nat} {mo ck : Int} {mb : Nat} {es : Array MapEntry} {mk : Nat} (h : TabAt w t mo ck mb es mk) (hb : But X w w') (hn : ¬ X t) (hm : ¬ X mb) : TabAt w' t mo ck mb es mk :=
  ⟨hb.cell h.c0 hn, hb.cell h.c1 hn, hb.cell h.c2 hn, hb.free h.c1 hn h.f1, (hb.block mb (Array.getElem?_eq_some_iff.1 h.m).1 hm).trans h.m⟩
theorem TabAt.ext {w w' : World} {t : Nat} {mo ck : Int} {mb : Nat} {es : Array MapEntry} {mk : Nat} (h : TabAt w t mo ck mb es mk) (hb : Ext w w') : TabAt w' t mo ck mb es mk :=
  h.but (But.of_ext hb) (Nat.not_le.2 (World.block_lt_of_cell? w _ h.c0)) (Nat.not_le.2 (Array.getElem?_eq_some_iff.1 h.m).1)

theorem TabAt.ne {w : World} {t : Nat} {mo ck : Int} {mb : Nat} {es : Array MapEntry} {mk : Nat} (h : TabAt w t mo ck mb es mk) : t ≠ mb := by
  intro e
  have h0 := h.c0
  have hm := h.m
  subst e
  simp [World.cell?, hm] at h0
theorem TabAt.tick {w : World} {t : Nat} {mo ck : Int} {mb : Nat} {es : Array MapEntry} {mk : Nat} (h : TabAt w t mo ck mb es mk) (c' : Int) : TabAt (w.setCell ⟨t, 1, none⟩ (.int .u64 c')) t mo c' mb es mk := by
  have hb : But (fun k => k = t) w (w.setCell ⟨t, 1, none⟩ (.int .u64 c')) := (But.refl (fun k => k = t) w).setCell rfl _
  have hne := h.ne
  refine ⟨?_, World.cell?_setCell_same _ _ _ h.c1, ?_, by rw [World.frozen?_setCell]; exact h.f1, (hb.block mb (Array.getElem?_eq_some_iff.1 h.m).1 (fun h => hne h.symm)).trans h.m⟩
  · rw [World.cell?_setCell_other (h := by simp)]; exact h.c0
  · rw [World.cell?_setCell_other (h := by simp)]; exact h.c2

set_option maxHeartbeats 1600000 in
theorem pTabNew (mo : Int) (h1 : 1 ≤ mo) (h2 : mo ≤ 1000000) (w : World) :
    Calls Tryz.prog 42 #[.int .i64 mo] w fun e w' => ∃ t mb, e = .returned (.pointer (some ⟨t, 0, none⟩)) ∧ TabAt w' t mo 0 mb #[] 0 ∧ w.heap.size ≤ t ∧ w.heap.size ≤ mb ∧ t ≠ mb ∧ Ext w w' := by
  have e1 : min mo 1000000 = mo := by omega
  have e2 : max 1 mo = mo := by omega
  have hmm := @run_makeMap Tryz.prog
  go_enter Tryz.func42, Tryz.ntmps42
  go_wp2
  go_ret
  refine ⟨w.heap.size + 1, w.heap.size, rfl, ⟨by go_simp, by go_simp, by go_simp, by go_simp, ?_⟩, by omega, by omega, by omega, by repeat (first | exact Ext.refl _ | assumption | apply Ext.drew | apply Ext.alloc | (refine Ext.setCell ?_ (by simp <;> omega) _) | refine Ext.trans ?_ (by assumption))⟩
  exact (Below.heap_alloc _ _ _ (by simp)).trans (World.alloc_heap_new w _)

set_option maxHeartbeats 1600000 in
theorem pTick (t : Nat) (mo ck : Int) (mb : Nat) (es : Array MapEntry) (mk : Nat) (n : Int) (w : World) (hT : TabAt w t mo ck mb es mk) :
    Calls Tryz.prog 89 #[.pointer (some ⟨t, 0, none⟩), .int .u64 n] w fun e w' => e = .returned (.int .u64 (max ck n)) ∧ w' = w.setCell ⟨t, 1, none⟩ (.int .u64 (max ck n)) := by
  obtain ⟨c0, c1, c2, f1, -⟩ := hT
  go_enter Tryz.func89, Tryz.ntmps89
  go_wp2
  go_ret
  exact ⟨rfl, rfl⟩

theorem pClock (t : Nat) (mo ck : Int) (mb : Nat) (es : Array MapEntry) (mk : Nat) (h0 : 0 ≤ ck) (w : World) (hT : TabAt w t mo ck mb es mk) :
    Calls Tryz.prog 107 #[.pointer (some ⟨t, 0, none⟩)] w fun e w' => e = .returned (.int .u64 ck) ∧ w' = w.setCell ⟨t, 1, none⟩ (.int .u64 ck) := by
  have hm := Lib.hid (show max ck 0 = ck by omega)
  go_enter Tryz.func107, Tryz.ntmps107
  go_wp2_with fail
  refine (pTick t mo ck mb es mk 0 _ hT).mono ?_
  rintro e w1 ⟨rfl, rfl⟩
  rw [hm.out]
  go_wp2
  go_ret
  exact ⟨rfl, rfl⟩

end Go.Proofs.YtdgcgpapcbjfhaaGreatDoor

/- The slots of a table with no key. -/
namespace Go.Proofs.YtdgcgpapcbjfhaaGreatDoor
open Go.RowKit

set_option maxRecDepth 100000 in
theorem pLen64 (w : World) : Calls Tryz.prog 235 #[.int .u64 0] w fun e w' => e = .returned (.int .i64 0) ∧ Ext w w' := by
  go_enter Tryz.func235, Tryz.ntmps235
  go_wp2
  go_ret
  exact ⟨by kernel_rfl, by repeat (first | exact Ext.refl _ | assumption | apply Ext.drew | apply Ext.alloc | (refine Ext.setCell ?_ (by simp <;> omega) _) | refine Ext.trans ?_ (by assumption))⟩

theorem pLen0 (w : World) : Calls Tryz.prog 222 #[.int .u64 0] w fun e w' => e = .returned (.int .i64 0) ∧ Ext w w' := by
  go_enter Tryz.func222, Tryz.ntmps222
  go_wp2_with fail
  refine (pLen64 _).mono ?_
  rintro e w1 ⟨rfl, h1⟩
  go_wp2
  go_ret
  exact ⟨rfl, by repeat (first | exact Ext.refl _ | assumption | apply Ext.drew | apply Ext.alloc | (refine Ext.setCell ?_ (by simp <;> omega) _) | refine Ext.trans ?_ (by assumption))⟩

theorem pIns0 (f : Value) (w : World) : Calls Tryz.prog 226 #[.slice none 0 0, .int .i64 0, .int .i64 0, f] w fun e w' => (∃ v, e = .returned v) ∧ Ext w w' := by
  go_enter Tryz.func226, Tryz.ntmps226
  go_wp2
  go_loop [8] (fun i => i = .int .i64 1) (fun i => 0)
  case atStart => rfl
  case round =>
    subst hrel
    go_wp2
    go_end0
    exact ⟨⟨_, rfl⟩, by repeat (first | exact Ext.refl _ | assumption | apply Ext.drew | apply Ext.alloc | (refine Ext.setCell ?_ (by simp <;> omega) _) | refine Ext.trans ?_ (by assumption))⟩

theorem pPdq0 (f : Value) (w : World) : Calls Tryz.prog 221 #[.slice none 0 0, .int .i64 0, .int .i64 0, .int .i64 0, f] w fun e w' => (∃ v, e = .returned v) ∧ Ext w w' := by
  go_enter Tryz.func221, Tryz.ntmps221
  go_wp2
  go_loopw [1, 2, 3] (fun a b c wr => a = .int .i64 0 ∧ b = .int .i64 0 ∧ c = .int .i64 0 ∧ Ext w wr) (fun _ _ _ _ => 0)
  case atStart => exact ⟨rfl, rfl, rfl, Ext.refl _⟩
  case round =>
    obtain ⟨rfl, rfl, rfl, h0⟩ := hrel
    go_wp2_with fail
    refine (pIns0 f _).mono ?_
    rintro e w1 ⟨⟨v, rfl⟩, h1⟩
    go_wp2
    exact bodyPost_ret (results_none rfl _ _ _) rfl ⟨⟨_, rfl⟩, by repeat (first | exact Ext.refl _ | assumption | apply Ext.drew | apply Ext.alloc | (refine Ext.setCell ?_ (by simp <;> omega) _) | refine Ext.trans ?_ (by assumption))⟩

theorem pSort0 (f : Value) (w : World) : Calls Tryz.prog 210 #[.slice none 0 0, f] w fun e w' => (∃ v, e = .returned v) ∧ Ext w w' := by
  go_enter Tryz.func210, Tryz.ntmps210
  go_wp2_with fail
  refine (pLen0 _).mono ?_
  rintro e w1 ⟨rfl, h1⟩
  go_wp2_with fail
  refine (pPdq0 f _).mono ?_
  rintro e w2 ⟨⟨v, rfl⟩, h2⟩
  go_wp2
  go_end0
  exact ⟨⟨_, rfl⟩, by repeat (first | exact Ext.refl _ | assumption | apply Ext.drew | apply Ext.alloc | (refine Ext.setCell ?_ (by simp <;> omega) _) | refine Ext.trans ?_ (by assumption))⟩

theorem active_gives (t : Nat) (mo ck : Int) (mb mk : Nat) (bx : Nat) (w : World) (n₀ : Nat) (hT : TabAt w t mo ck mb #[] mk) (hB : w.cell? ⟨bx, 0, none⟩ = some (.pointer (some ⟨t, 0, none⟩))) :
    GivesG Tryz.prog 168 #[.pointer (some ⟨bx, 0, none⟩)] (fun _ : Unit => #[undef]) n₀ (fun _ => False) (fun _ => False) (fun _ _ => False) (fun ys => ys = []) w := by
  intro l J Jx W hW hl hlt hJ hJx hY h0
  have hxW : Ext w W := hW
  obtain ⟨c0, c1, c2, f1, hm⟩ := hT.ext hxW
  have hBW : W.cell? ⟨bx, 0, none⟩ = some (.pointer (some ⟨t, 0, none⟩)) := (hW.cell (p := ⟨bx, 0, none⟩) (World.block_lt_of_cell? w _ hB)).trans hB
  clear hB hY hT
  have hr : (Instr.range 133 (.map (some mb))).run Tryz.prog W = .ok (.pointer (some ⟨W.heap.size, 0, none⟩)) (W.alloc (.mapIter (some mb) mk #[] mk)) := run_range_map W _ 9 196 mb #[] mk (by kernel_rfl) hm
  have hn : ∀ ty, (Instr.next (.pointer (some ⟨W.heap.size, 0, none⟩)) false ty).run Tryz.prog (W.alloc (.mapIter (some mb) mk #[] mk)) = .ok (.tuple #[.bool false]) (W.alloc (.mapIter (some mb) mk #[] mk)) := by
    intro ty
    rcases run_next_map (P := Tryz.prog) W ty mb mk mk #[] #[] mk hm (by simp) (Nat.le_refl _) with h | ⟨e, he, -⟩
    · exact h.2
    · simp [leftOf] at he
  clear hm
  refine callsIn_of_wp Tryz.func168 rfl trivial ?_ rfl
  simp only [Tryz.ntmps168, List.size_toArray, List.length_cons, List.length_nil, Nat.reduceAdd, Nat.reduceSub, Array.replicate_succ, Array.replicate_zero, List.push_toArray, List.append_toArray, List.nil_append, List.cons_append]
  gi_wp2
  gi_loopw [4, 12] (fun _ _ wr => wr = W.alloc (.mapIter (some mb) mk #[] mk)) (fun _ _ _ => 0)
  case atStart => rfl
  case round =>
    subst hrel
    gi_wp2
    go_end0
    exact ⟨⟨_, rfl⟩, .inl ⟨[], rfl, hJ _ _ _ h0 (But.of_ext ((Ext.refl W).alloc _))⟩⟩

theorem pAppS (t : Nat) (mo ck : Int) (mb mk : Nat) (bx : Nat) (w : World) (hT : TabAt w t mo ck mb #[] mk) (hB : w.cell? ⟨bx, 0, none⟩ = some (.pointer (some ⟨t, 0, none⟩))) :
    Calls Tryz.prog 220 #[.slice none 0 0, .func (.func 168) #[] #[.pointer (some ⟨bx, 0, none⟩)]] w fun e w' => e = .returned (.slice none 0 0) ∧ Ext w w' := by
  have hTl := World.block_lt_of_cell? w _ hT.c0
  have hBl := World.block_lt_of_cell? w _ hB
  refine (callsIn_wide (n := 0)).1 ?_
  refine callsIn_of_wp_marks Tryz.func220 rfl trivial ?_ rfl
  simp only [Tryz.ntmps220, List.size_toArray, List.length_cons, List.length_nil, Nat.reduceAdd, Nat.reduceSub, Array.replicate_succ, Array.replicate_zero, List.push_toArray, List.append_toArray, List.nil_append, List.cons_append]
  gi_wp2
  have hx0 : Ext w (w.alloc (.cells #[.slice none 0 0] 212)) := (Ext.refl w).alloc _
  refine wp_rangeFunc_g (n₀ := w.heap.size) (lb := #[.pointer (some ⟨bx, 0, none⟩)]) rfl (enters_of Tryz.func168 (by kernel_rfl) rfl)
    (active_gives t mo ck mb mk bx _ w.heap.size (hT.ext hx0) (hx0.reads hB)) (fun _ h => h.elim) (fun _ h => h.elim) (Below.refl _ _) (by simp) (fun _ => rfl)
    (fun pre W => pre = [] → Ext w W ∧ W.cell? ⟨w.heap.size, 0, none⟩ = some (.slice none 0 0)) (fun _ _ => False)
    ?inv ?invx ?start ?round ?done ?stop
  case inv =>
    intro pre A B h hb hp
    obtain ⟨h1, h2⟩ := h hp
    exact ⟨hb.ext h1 (by rintro k (h | h); simp at h; omega; exact h.elim), hb.cell h2 (by rintro (h | h) <;> first | exact h | (simp at h; done) | (simp at h; omega) | omega)⟩
  case invx => intro id A B h; exact h.elim
  case start => intro _; exact ⟨hx0, by go_simp⟩
  case round => rintro l' pre x Wr hl' hlt' hF h; exact h.elim
  case stop => intro D id W hD h; exact h.elim
  case done =>
    rintro D ys W hD rfl hF hK
    obtain ⟨h1, h2⟩ := hF rfl
    gi_wp2
    refine ⟨by simp, .inl ⟨_, _, rfl, run_takeDeferred hK, ?_⟩⟩
    exact ⟨_, results_tmp rfl _ _ _, rfl, Below.trans h1 (below_putObj _ _ _ _ (by simp at hD; omega))⟩

theorem pCollect (t : Nat) (mo ck : Int) (mb mk : Nat) (bx : Nat) (w : World) (hT : TabAt w t mo ck mb #[] mk) (hB : w.cell? ⟨bx, 0, none⟩ = some (.pointer (some ⟨t, 0, none⟩))) :
    Calls Tryz.prog 209 #[.func (.func 168) #[] #[.pointer (some ⟨bx, 0, none⟩)]] w fun e w' => e = .returned (.slice none 0 0) ∧ Ext w w' := by
  go_enter Tryz.func209, Tryz.ntmps209
  go_wp2_with fail
  refine (pAppS t mo ck mb mk bx w hT hB).mono ?_
  rintro e w1 ⟨rfl, h1⟩
  go_wp2
  go_ret
  exact ⟨rfl, by repeat (first | exact Ext.refl _ | assumption | apply Ext.drew | apply Ext.alloc | (refine Ext.setCell ?_ (by simp <;> omega) _) | refine Ext.trans ?_ (by assumption))⟩

theorem pSorted (f : Value) (t : Nat) (mo ck : Int) (mb mk : Nat) (bx : Nat) (w : World) (hT : TabAt w t mo ck mb #[] mk) (hB : w.cell? ⟨bx, 0, none⟩ = some (.pointer (some ⟨t, 0, none⟩))) :
    Calls Tryz.prog 170 #[.func (.func 168) #[] #[.pointer (some ⟨bx, 0, none⟩)], f] w fun e w' => e = .returned (.slice none 0 0) ∧ Ext w w' := by
  go_enter Tryz.func170, Tryz.ntmps170
  go_wp2_with fail
  refine (pCollect t mo ck mb mk bx w hT hB).mono ?_
  rintro e w1 ⟨rfl, h1⟩
  go_wp2_with fail
  refine (pSort0 f _).mono ?_
  rintro e w2 ⟨⟨v, rfl⟩, h2⟩
  go_wp2
  go_ret
  exact ⟨rfl, by repeat (first | exact Ext.refl _ | assumption | apply Ext.drew | apply Ext.alloc | (refine Ext.setCell ?_ (by simp <;> omega) _) | refine Ext.trans ?_ (by assumption))⟩

theorem pActive (p : Value) (w : World) (t : Nat) :
    Calls Tryz.prog 132 #[.pointer (some ⟨t, 0, none⟩)] w fun e w' => ∃ bx, e = .returned (.func (.func 168) #[] #[.pointer (some ⟨bx, 0, none⟩)]) ∧ w'.cell? ⟨bx, 0, none⟩ = some (.pointer (some ⟨t, 0, none⟩)) ∧ Ext w w' := by
  have hmf : ∀ w', (Instr.makeFunc (.func 168) #[] #[.pointer (some ⟨w.heap.size, 0, none⟩)]).run Tryz.prog w' = .ok (.func (.func 168) #[] #[.pointer (some ⟨w.heap.size, 0, none⟩)]) w' := fun w' => by simp [Instr.makeFunc, go_sem]
  go_enter Tryz.func132, Tryz.ntmps132
  go_wp2
  go_ret
  exact ⟨w.heap.size, rfl, by go_simp, by repeat (first | exact Ext.refl _ | assumption | apply Ext.drew | apply Ext.alloc | (refine Ext.setCell ?_ (by simp <;> omega) _) | refine Ext.trans ?_ (by assumption))⟩

theorem pSlots (t : Nat) (mo ck : Int) (mb mk : Nat) (w : World) (hT : TabAt w t mo ck mb #[] mk) :
    Calls Tryz.prog 134 #[.pointer (some ⟨t, 0, none⟩)] w fun e w' => e = .returned (.slice none 0 0) ∧ Ext w w' := by
  go_enter Tryz.func134, Tryz.ntmps134
  go_wp2_with fail
  refine (pActive undef w t).mono ?_
  rintro e w1 ⟨bx, rfl, hB, h1⟩
  have hT1 := hT.ext h1
  go_wp2_with fail
  refine (pSorted _ t mo ck mb mk bx w1 hT1 hB).mono ?_
  rintro e w2 ⟨rfl, h2⟩
  go_wp2
  go_ret
  exact ⟨rfl, by repeat (first | exact Ext.refl _ | assumption | apply Ext.drew | apply Ext.alloc | (refine Ext.setCell ?_ (by simp <;> omega) _) | refine Ext.trans ?_ (by assumption))⟩

end Go.Proofs.YtdgcgpapcbjfhaaGreatDoor
