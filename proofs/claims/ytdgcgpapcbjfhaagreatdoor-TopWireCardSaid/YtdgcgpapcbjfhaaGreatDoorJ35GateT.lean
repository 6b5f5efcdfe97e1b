/- A gate's tick. -/
import Derived.Test.YtdgcgpapcbjfhaaGreatDoorJ34Gate
import Derived.RegionTactic
import Derived.Deep.RegionHeld3
import Derived.Test.YtdgcgpapcbjfhaaGreatDoorJ07NumMore
set_option linter.unusedVariables false
set_option linter.unusedSimpArgs false

/- A gate does an operation. -/
namespace Go.Proofs.YtdgcgpapcbjfhaaGreatDoor
open Go.RowKit

/-- an operation as a value -/
def opV (kd : Int) (tick : Int) (b : Value) (key : ByteArray) (to : Int) : Value := .agg #[.int .u8 kd, .int .i64 tick, b, .string key, .int .u8 to]

/-- an answer's box that is empty -/
def ZeroAns (w : World) (r : Nat) : Prop := (w.cell? ⟨r, 0, none⟩ = some (.int .u8 0) ∧ w.cell? ⟨r, 1, none⟩ = some (.int .u16 0) ∧ w.cell? ⟨r, 2, none⟩ = some (.int .u64 0) ∧ w.cell? ⟨r, 3, none⟩ = some (.int .u64 0) ∧ w.cell? ⟨r, 4, none⟩ = some (.int .u64 0) ∧ w.cell? ⟨r, 5, none⟩ = some (.int .u64 0) ∧ w.cell? ⟨r, 6, none⟩ = some (.int .u64 0) ∧ w.cell? ⟨r, 7, none⟩ = some (.bool false) ∧ w.cell? ⟨r, 8, none⟩ = some (.int .i64 0) ∧ w.cell? ⟨r, 9, none⟩ = some (.slice none 0 0)) ∧ w.frozen? ⟨r, 0, none⟩ = false ∧ w.frozen? ⟨r, 1, none⟩ = false ∧ w.frozen? ⟨r, 2, none⟩ = false ∧ w.frozen? ⟨r, 3, none⟩ = false ∧ w.frozen? ⟨r, 4, none⟩ = false ∧ w.frozen? ⟨r, 5, none⟩ = false ∧ w.frozen? ⟨r, 6, none⟩ = false ∧ w.frozen? ⟨r, 7, none⟩ = false ∧ w.frozen? ⟨r, 8, none⟩ = false ∧ w.frozen? ⟨r, 9, none⟩ = false
theorem ZeroAns.but {X : Nat → Prop} {w w' : World} {r : Nat} (h : ZeroAns w r) (hb : But X w w') (hn : ¬ X r) : ZeroAns w' r := by
  obtain ⟨⟨a0, a1, a2, a3, a4, a5, a6, a7, a8, a9⟩, b0, b1, b2, b3, b4, b5, b6, b7, b8, b9⟩ := h
  exact ⟨⟨hb.cell a0 hn, hb.cell a1 hn, hb.cell a2 hn, hb.cell a3 hn, hb.cell a4 hn, hb.cell a5 hn, hb.cell a6 hn, hb.cell a7 hn, hb.cell a8 hn, hb.cell a9 hn⟩,
    hb.free a0 hn b0, hb.free a1 hn b1, hb.free a2 hn b2, hb.free a3 hn b3, hb.free a4 hn b4, hb.free a5 hn b5, hb.free a6 hn b6, hb.free a7 hn b7, hb.free a8 hn b8, hb.free a9 hn b9⟩

/-- an answer in its box -/
def AnsAt (w : World) (r : Nat) (a : Ans) : Prop := w.cell? ⟨r, 0, none⟩ = some (.int .u8 a.code) ∧ w.cell? ⟨r, 1, none⟩ = some (.int .u16 a.err) ∧ w.cell? ⟨r, 2, none⟩ = some (.int .u64 a.lim) ∧ w.cell? ⟨r, 3, none⟩ = some (.int .u64 a.left) ∧ w.cell? ⟨r, 4, none⟩ = some (.int .u64 a.reset) ∧ w.cell? ⟨r, 5, none⟩ = some (.int .u64 a.after) ∧ w.cell? ⟨r, 6, none⟩ = some (.int .u64 a.nanos) ∧ w.cell? ⟨r, 7, none⟩ = some (.bool a.retry) ∧ w.cell? ⟨r, 8, none⟩ = some (.int .i64 a.many) ∧ w.cell? ⟨r, 9, none⟩ = some (.slice none 0 0)
theorem ans_store (w : World) (r : Nat) (h : ZeroAns w r) (a : Ans) (W2 : World) (hW : ((((((((((w.setCell ⟨r, 0, none⟩ (.int .u8 a.code)).setCell ⟨r, 1, none⟩ (.int .u16 a.err)).setCell ⟨r, 2, none⟩ (.int .u64 a.lim)).setCell ⟨r, 3, none⟩ (.int .u64 a.left)).setCell ⟨r, 4, none⟩ (.int .u64 a.reset)).setCell ⟨r, 5, none⟩ (.int .u64 a.after)).setCell ⟨r, 6, none⟩ (.int .u64 a.nanos)).setCell ⟨r, 7, none⟩ (.bool a.retry)).setCell ⟨r, 8, none⟩ (.int .i64 a.many)).setCell ⟨r, 9, none⟩ (.slice none 0 0)) = W2) : But (fun k => k = r) w W2 ∧ AnsAt W2 r a := by
  obtain ⟨⟨a0, a1, a2, a3, a4, a5, a6, a7, a8, a9⟩, -⟩ := h
  subst hW
  exact ⟨((((((((((But.refl (fun k => k = r) w).setCell rfl _).setCell rfl _).setCell rfl _).setCell rfl _).setCell rfl _).setCell rfl _).setCell rfl _).setCell rfl _).setCell rfl _).setCell rfl _, by go_simp, by go_simp, by go_simp, by go_simp, by go_simp, by go_simp, by go_simp, by go_simp, by go_simp, by go_simp⟩
theorem AnsAt.but {X : Nat → Prop} {w w' : World} {r : Nat} {a : Ans} (h : AnsAt w r a) (hb : But X w w') (hn : ¬ X r) : AnsAt w' r a := by
  obtain ⟨a0, a1, a2, a3, a4, a5, a6, a7, a8, a9⟩ := h
  exact ⟨hb.cell a0 hn, hb.cell a1 hn, hb.cell a2 hn, hb.cell a3 hn, hb.cell a4 hn, hb.cell a5 hn, hb.cell a6 hn, hb.cell a7 hn, hb.cell a8 hn, hb.cell a9 hn⟩
theorem ans_Do {tmps : Array Value} {w : World} {r : Nat} {a : Ans} (h4 : tmps[4]?.getD undef = .pointer (some ⟨r, 0, none⟩)) (h : AnsAt w r a) :
    (results Tryz.f18 tmps).run Tryz.prog w = .ok (ansV a) w := by
  obtain ⟨a0, a1, a2, a3, a4, a5, a6, a7, a8, a9⟩ := h
  simp only [results, Tryz.results18]
  simp [h4, go_sem, a0, a1, a2, a3, a4, a5, a6, a7, a8, a9, ansV]
theorem ans_tick {tmps : Array Value} {w : World} {r : Nat} {a : Ans} (h4 : tmps[4]?.getD undef = .pointer (some ⟨r, 0, none⟩)) (h : AnsAt w r a) :
    (results Tryz.f67 tmps).run Tryz.prog w = .ok (ansV a) w := by
  obtain ⟨a0, a1, a2, a3, a4, a5, a6, a7, a8, a9⟩ := h
  simp only [results, Tryz.results67]
  simp [h4, go_sem, a0, a1, a2, a3, a4, a5, a6, a7, a8, a9, ansV]
theorem ans_check {tmps : Array Value} {w : World} {r : Nat} {a : Ans} (h4 : tmps[4]?.getD undef = .pointer (some ⟨r, 0, none⟩)) (h : AnsAt w r a) :
    (results Tryz.f68 tmps).run Tryz.prog w = .ok (ansV a) w := by
  obtain ⟨a0, a1, a2, a3, a4, a5, a6, a7, a8, a9⟩ := h
  simp only [results, Tryz.results68]
  simp [h4, go_sem, a0, a1, a2, a3, a4, a5, a6, a7, a8, a9, ansV]
theorem ans_reload {tmps : Array Value} {w : World} {r : Nat} {a : Ans} (h4 : tmps[4]?.getD undef = .pointer (some ⟨r, 0, none⟩)) (h : AnsAt w r a) :
    (results Tryz.f71 tmps).run Tryz.prog w = .ok (ansV a) w := by
  obtain ⟨a0, a1, a2, a3, a4, a5, a6, a7, a8, a9⟩ := h
  simp only [results, Tryz.results71]
  simp [h4, go_sem, a0, a1, a2, a3, a4, a5, a6, a7, a8, a9, ansV]

set_option maxRecDepth 100000 in
set_option maxHeartbeats 1600000 in
theorem pDo (g : Nat) (w : World) (kd tick to : Int) (ba : Option Addr) (bn bc : Nat) (key : ByteArray) (f : Nat) (i : Nat) (hf : f = 67 ∨ f = 68 ∨ f = 71)
    (hfn : Instr.findNow (.int .u8) (.int .u8 kd) (es7 g).toList 0 = some (some (i, .func (.func f) #[.pointer (some ⟨g, 0, none⟩)] #[])))
    (Q : Nat → Ans → World → Prop) (hQ : ∀ n R a A B, w.heap.size ≤ R → R < n → A.cell? ⟨R, 0, none⟩ = some (.int .u8 0) → Q n a A → But (fun k => k = R) A B → Q n a B)
    (hC : ∀ w', Ext w w' → Calls Tryz.prog f #[.pointer (some ⟨g, 0, none⟩), opV kd tick (.slice ba bn bc) key to] w' fun e w'' => ∃ a, e = .returned (ansV a) ∧ But (fun k => k < w.heap.size) w' w'' ∧ Q w'.heap.size a w'') :
    Calls Tryz.prog 18 #[.pointer (some ⟨g, 0, none⟩), opV kd tick (.slice ba bn bc) key to] w fun e w' => ∃ a n, w.heap.size ≤ n ∧ e = .returned (ansV a) ∧ Q n a w' := by
  have hA : ∀ w', Ext w w' → Calls Tryz.prog 43 #[.pointer (some ⟨g, 0, none⟩)] w' fun e w'' => ∃ m, e = .returned (.map (some m)) ∧ (Instr.lookup 111 (.map (some m)) (.int .u8 kd) false).run Tryz.prog w'' = .ok (.func (.func f) #[.pointer (some ⟨g, 0, none⟩)] #[]) w'' ∧ Ext w' w'' := by
    intro w' hx
    refine (pActs g w').mono ?_
    rintro e w'' ⟨rfl, rfl⟩
    exact ⟨_, rfl, lookY (show Tryz.prog.underlying 111 = some (.map 5 65) by kernel_rfl) (show Tryz.prog.underlying 5 = some (.int .u8) by kernel_rfl) (fun b w => ckInt (show Tryz.prog.underlying 5 = some (.int .u8) by kernel_rfl) b _ _ w) (MapKept.heap_alloc w' _).1 hfn false, (Ext.refl w').alloc _⟩
  clear hfn
  unfold opV at *
  go_enter Tryz.func18, Tryz.ntmps18
  go_wp2
  obtain ⟨B, hB⟩ : ∃ B, w.heap.size = B := ⟨_, rfl⟩
  obtain ⟨W, hW⟩ : ∃ W, (w.alloc (.cells #[.int .u8 kd, .int .i64 tick, .slice ba bn bc, .string key, .int .u8 to] 37)).alloc (.cells #[.int .u8 0, .int .u16 0, .int .u64 0, .int .u64 0, .int .u64 0, .int .u64 0, .int .u64 0, .bool false, .int .i64 0, .slice none 0 0] 43) = W := ⟨_, rfl⟩
  have hx0 : Ext w W := by rw [← hW]; exact ((Ext.refl w).alloc _).alloc _
  have hcs : W.cell? ⟨B, 0, none⟩ = some (.int .u8 kd) ∧ W.cell? ⟨B, 1, none⟩ = some (.int .i64 tick) ∧ W.cell? ⟨B, 2, none⟩ = some (.slice ba bn bc) ∧ W.cell? ⟨B, 3, none⟩ = some (.string key) ∧ W.cell? ⟨B, 4, none⟩ = some (.int .u8 to) := by
    subst hW hB; exact ⟨by go_simp, by go_simp, by go_simp, by go_simp, by go_simp⟩
  obtain ⟨k0, k1, k2, k3, k4⟩ := hcs
  have hrs : Hid (ZeroAns W (B + 1)) := Lib.hid (by subst hW hB; exact ⟨⟨by go_simp, by go_simp, by go_simp, by go_simp, by go_simp, by go_simp, by go_simp, by go_simp, by go_simp, by go_simp⟩, by go_simp, by go_simp, by go_simp, by go_simp, by go_simp, by go_simp, by go_simp, by go_simp, by go_simp, by go_simp⟩)
  have hszW : W.heap.size = B + 2 := by subst hW hB; simp
  rw [hW, hB]
  have hl0 : ∀ w', Ext W w' → w'.cell? ⟨B, 0, none⟩ = some (.int .u8 kd) := fun w' h => h.reads k0
  have hA' : ∀ w', Ext W w' → Calls Tryz.prog 43 #[.pointer (some ⟨g, 0, none⟩)] w' fun e w'' => ∃ m, e = .returned (.map (some m)) ∧ (Instr.lookup 111 (.map (some m)) (.int .u8 kd) false).run Tryz.prog w'' = .ok (.func (.func f) #[.pointer (some ⟨g, 0, none⟩)] #[]) w'' ∧ Ext W w'' := fun w' h => (hA w' (hx0.trans h)).mono fun e w'' ⟨m, h1, h2, h3⟩ => ⟨m, h1, h2, h.trans h3⟩
  have hst : Ext W W := Ext.refl W
  have hWd : Ext W W.drew := (Ext.refl W).drew
  have hBw := Lib.hid hB
  clear hW hB hA
  go_region_held3 (Ext W) (first | assumption | repeat (first | exact Ext.refl _ | assumption | apply Ext.drew | apply Ext.alloc | (refine Ext.setCell ?_ (by simp <;> omega) _) | refine Ext.trans ?_ (by assumption))) ((go_at_call 43; refine (hA' _ (by assumption)).mono ?_; rintro e w9 ⟨m, rfl, hlk, hb⟩))
  have q0 := hb.reads k0
  have q1 := hb.reads k1
  have q2 := hb.reads k2
  have q3 := hb.reads k3
  have q4 := hb.reads k4
  have hn9 : Hid (B + 1 < w9.heap.size) := Lib.hid (by have := hb.size; omega)
  have hz9 : Hid (ZeroAns w9 (B + 1)) := Lib.hid (hrs.out.but (But.of_ext hb) (show ¬ W.heap.size ≤ B + 1 by omega))
  have hC9 := hC w9 (hx0.trans hb)
  have hne : ∀ w, (binOp BinOp.eql 65 (.func (.func f) #[.pointer (some ⟨g, 0, none⟩)] #[]) .nilFunc).run Tryz.prog w = .ok (.bool false) w := fun w => by kernel_rfl
  clear hC hA' hl0 k0 k1 k2 k3 k4 hst hWd hrs hszW hx0 hlk
  rcases hf with rfl | rfl | rfl
  all_goals
    go_wp2_with fail
    refine hC9.mono ?_
    rintro e w10 ⟨a, rfl, hbt, hq⟩
    have hz10 := Lib.hid (hz9.out.but hbt (by have := hBw.out; omega))
    obtain ⟨⟨a0, a1, a2, a3, a4, a5, a6, a7, a8, a9⟩, b0, b1, b2, b3, b4, b5, b6, b7, b8, b9⟩ := hz10.out
    have hR : Hid (∀ W2, But (fun k => k = B + 1) w10 W2 → ∃ n, w.heap.size ≤ n ∧ Q n a W2) := Lib.hid fun W2 h2 => ⟨w9.heap.size, by have := hn9.out; have := hBw.out; omega, hQ _ (B + 1) a w10 W2 (by have := hBw.out; omega) hn9.out hz10.out.1.1 hq h2⟩
    clear hC9 hQ hq hbt hz9 q0 q1 q2 q3 q4 hb
    obtain ⟨xc, xe, xl, xf, xr, xa, xn, xt, xm⟩ := a
    have hS := Lib.hid (ans_store w10 (B + 1) hz10.out ⟨xc, xe, xl, xf, xr, xa, xn, xt, xm⟩)
    clear hz10
    simp only [ansV]
    go_wp2
    obtain ⟨h1, h2⟩ := hS.out _ rfl
    obtain ⟨n, h3, h4⟩ := hR.out _ h1
    exact bodyPost_ret (ans_Do rfl h2) rfl ⟨⟨xc, xe, xl, xf, xr, xa, xn, xt, xm⟩, n, h3, rfl, h4⟩

end Go.Proofs.YtdgcgpapcbjfhaaGreatDoor

/- A gate's tick. -/
namespace Go.Proofs.YtdgcgpapcbjfhaaGreatDoor
open Go.RowKit

structure TickS (W : World) (t : Nat) (mo ck n : Int) (mb : Nat) (es : Array MapEntry) (mk : Nat) (w' : World) : Prop where
  but : But (fun k => k = t) W w'
  tab : ∃ c, TabAt w' t mo c mb es mk ∧ max c n = max ck n
theorem TickS.ext {W : World} {t : Nat} {mo ck n : Int} {mb : Nat} {es : Array MapEntry} {mk : Nat} {w' w'' : World} (h : TickS W t mo ck n mb es mk w') (hx : Ext w' w'') : TickS W t mo ck n mb es mk w'' := by
  obtain ⟨c, h1, h2⟩ := h.tab
  exact ⟨h.but.trans (But.of_ext hx), c, h1.ext hx, h2⟩
theorem TickS.drew {W : World} {t : Nat} {mo ck n : Int} {mb : Nat} {es : Array MapEntry} {mk : Nat} {w' : World} (h : TickS W t mo ck n mb es mk w') : TickS W t mo ck n mb es mk w'.drew := h.ext ((Ext.refl _).drew)

theorem But.fresh {X Y : Nat → Prop} {a b c : World} (h : But X a b) (k : But Y b c) (hY : ∀ i, Y i → a.heap.size ≤ i) : But X a c :=
  ⟨k.os.trans h.os, k.tape.trans h.tape, k.output.trans h.output, Nat.le_trans h.size k.size, fun i hi hn => (k.block i (Nat.lt_of_lt_of_le hi h.size) (fun e => Nat.not_le.2 hi (hY i e))).trans (h.block i hi hn)⟩

set_option maxRecDepth 100000 in
set_option maxHeartbeats 1600000 in
theorem pTickG (g t : Nat) (p tr : Option Addr) (x y : Nat) (mo ck : Int) (mb : Nat) (es : Array MapEntry) (mk : Nat) (kd tick to : Int) (ba : Option Addr) (bn bc : Nat) (key : ByteArray) (n : Int) (ht1 : -9223372036854775808 ≤ tick) (ht2 : tick ≤ 9223372036854775807) (hn : max tick 0 = n) (w : World)
    (hg : GateAt w g t p tr x y) (hT : TabAt w t mo ck mb es mk) (hgt : g ≠ t) :
    Calls Tryz.prog 67 #[.pointer (some ⟨g, 0, none⟩), opV kd tick (.slice ba bn bc) key to] w fun e w' => e = .returned (ansV ⟨6, 0, 0, 0, 0, 0, 0, false, 0⟩) ∧ TabAt w' t mo (max ck n) mb es mk ∧ But (fun k => k = t) w w' := by
  have htl : t < w.heap.size := World.block_lt_of_cell? w _ hT.c0
  unfold opV
  go_enter Tryz.func67, Tryz.ntmps67
  go_wp2
  obtain ⟨B, hB⟩ : ∃ B, w.heap.size = B := ⟨_, rfl⟩
  obtain ⟨W, hW⟩ : ∃ W, (w.alloc (.cells #[.int .u8 kd, .int .i64 tick, .slice ba bn bc, .string key, .int .u8 to] 37)).alloc (.cells #[.int .u8 0, .int .u16 0, .int .u64 0, .int .u64 0, .int .u64 0, .int .u64 0, .int .u64 0, .bool false, .int .i64 0, .slice none 0 0] 43) = W := ⟨_, rfl⟩
  have hx0 : Ext w W := by rw [← hW]; exact ((Ext.refl w).alloc _).alloc _
  have k1 : W.cell? ⟨B, 1, none⟩ = some (.int .i64 tick) := by subst hW hB; go_simp
  have hrs : Hid (ZeroAns W (B + 1)) := Lib.hid (by subst hW hB; exact ⟨⟨by go_simp, by go_simp, by go_simp, by go_simp, by go_simp, by go_simp, by go_simp, by go_simp, by go_simp, by go_simp⟩, by go_simp, by go_simp, by go_simp, by go_simp, by go_simp, by go_simp, by go_simp, by go_simp, by go_simp, by go_simp⟩)
  rw [hW, hB]
  have hst : TickS W t mo ck n mb es mk W := ⟨But.refl _ _, ck, hT.ext hx0, rfl⟩
  have hBt : ¬ B = t := by omega
  have hBt1 : ¬ B + 1 = t := by omega
  have hmB : ¬ mb = B + 1 := by have hml : mb < w.heap.size := (Array.getElem?_eq_some_iff.1 hT.m).1; omega
  have hBw := Lib.hid hB
  have hg0 := (hg.ext hx0).c0
  have hl0 : ∀ w', TickS W t mo ck n mb es mk w' → w'.cell? ⟨g, 0, none⟩ = some (.pointer (some ⟨t, 0, none⟩)) := fun w' h => h.but.cell hg0 hgt
  have hl1 : ∀ w', TickS W t mo ck n mb es mk w' → w'.cell? ⟨B, 1, none⟩ = some (.int .i64 tick) := fun w' h => h.but.cell k1 hBt
  have hCl : ∀ w', TickS W t mo ck n mb es mk w' → Calls Tryz.prog 90 #[.int .i64 tick] w' fun e w'' => e = .returned (.int .u64 n) ∧ TickS W t mo ck n mb es mk w'' := fun w' h => (nClamp tick (by omega) (by omega) w').mono fun e w'' h2 => ⟨by rw [← hn]; exact h2.1, h2.2 ▸ h⟩
  have hTk : ∀ w', TickS W t mo ck n mb es mk w' → Calls Tryz.prog 89 #[.pointer (some ⟨t, 0, none⟩), .int .u64 n] w' fun e w'' => (e = .returned (.int .u64 (max ck n)) ∧ TabAt w'' t mo (max ck n) mb es mk) ∧ TickS W t mo ck n mb es mk w'' := fun w' h => by
    obtain ⟨c, h1, h2⟩ := h.tab
    refine (pTick t mo c mb es mk n w' h1).mono ?_
    rintro e w'' ⟨rfl, rfl⟩
    rw [h2]
    exact ⟨⟨rfl, h1.tick _⟩, h.but.trans ((But.refl (fun k => k = t) w').setCell rfl _), _, h1.tick _, by omega⟩
  have hx0H := Lib.hid hx0
  clear hW hB hg hT hx0 k1 hg0 hn
  go_region_held3 (TickS W t mo ck n mb es mk) (first | assumption | exact TickS.drew (by assumption)) (first
    | (go_at_call 90; refine (hCl _ (by assumption)).mono ?_; rintro e w9 ⟨rfl, hb⟩)
    | (go_at_call 89; refine (hTk _ (by assumption)).mono ?_; rintro e w9 ⟨⟨rfl, hT9⟩, hb⟩))
  have hz9 := Lib.hid (hrs.out.but hb.but hBt1)
  have hT9H := Lib.hid hT9
  have hbt := Lib.hid hb.but
  clear hT9 hl0 hl1 hCl hTk hst hrs hb
  go_wp2_with fail
  refine (pDone 0 _).mono ?_
  rintro e w10 ⟨rfl, hx10⟩
  have hz10 := Lib.hid (hz9.out.but (But.of_ext hx10) (Nat.not_le.2 (World.block_lt_of_cell? w9 _ hz9.out.1.1)))
  obtain ⟨⟨a0, a1, a2, a3, a4, a5, a6, a7, a8, a9⟩, b0, b1, b2, b3, b4, b5, b6, b7, b8, b9⟩ := hz10.out
  have hS := Lib.hid (ans_store w10 (B + 1) hz10.out ⟨6, 0, 0, 0, 0, 0, 0, false, 0⟩)
  have hT10 := Lib.hid (hT9H.out.ext hx10)
  have hbt10 := Lib.hid (hbt.out.trans (But.of_ext hx10))
  clear hz9 hz10 hT9H hbt hx10
  simp only [ansV]
  go_wp2
  obtain ⟨h1, h2⟩ := hS.out _ rfl
  refine bodyPost_ret (ans_tick rfl h2) rfl ⟨rfl, hT10.out.but h1 (fun e => hBt1 e.symm) hmB, ((But.of_ext hx0H.out).trans hbt10.out).fresh h1 (by rintro i rfl; have := hBw.out; omega)⟩

end Go.Proofs.YtdgcgpapcbjfhaaGreatDoor
