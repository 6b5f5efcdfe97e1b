/- One rule out of words, by the program: the walk. -/
import Derived.Test.YtdgcgpapcbjfhaaGreatDoorJ20RuleM
import Derived.Laws.Cover3
set_option linter.unusedVariables false
set_option linter.unusedSimpArgs false

/- One rule out of words, by the program: the walk. -/
namespace Go.Proofs.YtdgcgpapcbjfhaaGreatDoor
open Go.RowKit

theorem ret_rulep {r r' : Rl} {e e' a a' : Int} (h : (r, e, a) = (r', e', a')) : Ending.returned (.tuple #[rlV r, .int .u16 e, .int .i64 a]) = .returned (.tuple #[rlV r', .int .u16 e', .int .i64 a']) := by
  injection h with h1 h2; injection h2 with h2 h3; rw [h1, h2, h3]

theorem eqNil (a : Option Addr) (n c : Nat) (w : World) : (binOp .eql 144 (.slice a n c) (.slice none 0 0)).run Tryz.prog w = .ok (.bool a.isNone) w := by
  simp [binOp, run_equal_slice_nil (P := Tryz.prog) w 144 139 a n c Tryz.underlying144, Result.andThen]

/-- after k parts -/
def stg (ts : List (List UInt8)) (a : Nat) (pre : List UInt8) (k : Nat) (R : Rl) : Prop :=
  (k = 0 → R = ⟨pre, 0, 0, 0⟩) ∧ (k = 1 → R = ⟨pre, dV (ts.getD a []), 0, 0⟩) ∧ (k = 2 → R = ⟨pre, dV (ts.getD a []), dV (ts.getD (a + 1) []), 0⟩) ∧ (k = 3 → R = ⟨pre, dV (ts.getD a []), dV (ts.getD (a + 1) []), kindN (ts.getD (a + 2) [])⟩) ∧
  (1 ≤ k → numE (ts.getD a []) 24 = 0) ∧ (2 ≤ k → burE (dV (ts.getD a [])) (ts.getD (a + 1) []) = 0) ∧ (3 ≤ k → kindN (ts.getD (a + 2) []) ≠ 0)

theorem stg0 (ts : List (List UInt8)) (a : Nat) (pre : List UInt8) : stg ts a pre 0 ⟨pre, 0, 0, 0⟩ := ⟨fun _ => rfl, by omega, by omega, by omega, by omega, by omega, by omega⟩
theorem stg1 {ts : List (List UInt8)} {a : Nat} {pre : List UInt8} {R : Rl} (h : stg ts a pre 0 R) (he : numE (ts.getD a []) 24 = 0) : stg ts a pre 1 { R with ev := dV (ts.getD a []) } := by
  have := h.1 rfl; subst this
  exact ⟨by omega, fun _ => rfl, by omega, by omega, fun _ => he, by omega, by omega⟩
theorem stg2 {ts : List (List UInt8)} {a : Nat} {pre : List UInt8} {R : Rl} (h : stg ts a pre 1 R) (he : burE R.ev (ts.getD (a + 1) []) = 0) : stg ts a pre 2 { R with bu := dV (ts.getD (a + 1) []) } := by
  have h1 := h.2.1 rfl; have h2 := h.2.2.2.2.1 (by omega); subst h1
  exact ⟨by omega, by omega, fun _ => rfl, by omega, fun _ => h2, fun _ => he, by omega⟩
theorem stg3 {ts : List (List UInt8)} {a : Nat} {pre : List UInt8} {R : Rl} (h : stg ts a pre 2 R) (he : kindN (ts.getD (a + 2) []) ≠ 0) : stg ts a pre 3 { R with kd := kindN (ts.getD (a + 2) []) } := by
  have h1 := h.2.2.1 rfl; have h2 := h.2.2.2.2.1 (by omega); have h3 := h.2.2.2.2.2.1 (by omega); subst h1
  exact ⟨by omega, by omega, by omega, fun _ => rfl, fun _ => h2, fun _ => h3, fun _ => he⟩
theorem stg_ev {ts : List (List UInt8)} {a : Nat} {pre : List UInt8} {R : Rl} (h : stg ts a pre 1 R) : R.ev = dV (ts.getD a []) := by rw [h.2.1 rfl]
theorem stg_e1 {ts : List (List UInt8)} {a : Nat} {pre : List UInt8} (he : numE (ts.getD a []) 24 ≠ 0) : rTail ts a pre = (Rl0, numE (ts.getD a []) 24, (a : Int)) := rTail_e1 he
theorem stg_e2 {ts : List (List UInt8)} {a : Nat} {pre : List UInt8} {R : Rl} (h : stg ts a pre 1 R) (he : burE R.ev (ts.getD (a + 1) []) ≠ 0) : rTail ts a pre = (Rl0, burE R.ev (ts.getD (a + 1) []), ((a + 1 : Nat) : Int)) := by
  rw [stg_ev h] at he ⊢; exact rTail_e2 (h.2.2.2.2.1 (by omega)) he
theorem stg_e3 {ts : List (List UInt8)} {a : Nat} {pre : List UInt8} {R : Rl} (h : stg ts a pre 2 R) (he : kindN (ts.getD (a + 2) []) = 0) : rTail ts a pre = (Rl0, 27, ((a + 2 : Nat) : Int)) :=
  rTail_e3 (h.2.2.2.2.1 (by omega)) (h.2.2.2.2.2.1 (by omega)) he
theorem stg_ok {ts : List (List UInt8)} {a : Nat} {pre : List UInt8} {R : Rl} (h : stg ts a pre 3 R) : rTail ts a pre = (R, 0, 0) := by
  rw [rTail_ok (h.2.2.2.2.1 (by omega)) (h.2.2.2.2.2.1 (by omega)) (h.2.2.2.2.2.2 (by omega)), h.2.2.2.1 rfl]

/-- the world behind the parts: the result's box H, the rule's box B -/
structure RW (w W4 : World) (H B : Nat) (g : Nat) (ts : List (List UInt8)) : Prop where
  ex : Ext w W4
  st : StrsAt W4 g ts
  gb : g < B
  hb : H < B
  hw : w.heap.size ≤ H
  wb : w.heap.size ≤ B
  h0 : W4.cell? ⟨H, 0, none⟩ = some (.string ⟨#[]⟩)
  h1 : W4.cell? ⟨H, 1, none⟩ = some (.int .u64 0)
  h2 : W4.cell? ⟨H, 2, none⟩ = some (.int .u64 0)
  h3 : W4.cell? ⟨H, 3, none⟩ = some (.int .u8 0)
  f0 : W4.frozen? ⟨H, 0, none⟩ = false
  f1 : W4.frozen? ⟨H, 1, none⟩ = false
  f2 : W4.frozen? ⟨H, 2, none⟩ = false
  f3 : W4.frozen? ⟨H, 3, none⟩ = false

theorem RW.at {w W4 wr : World} {H B g : Nat} {ts : List (List UInt8)} (h : RW w W4 H B g ts) (hb : But (fun x => x = B) W4 wr) : RW w wr H B g ts := by
  have n1 : ¬ H = B := fun e => by have := h.hb; omega
  have n2 : ¬ g = B := fun e => by have := h.gb; omega
  exact ⟨hb.ext h.ex (by rintro x rfl; exact h.wb), fun i hi => hb.cell (h.st i hi) n2, h.gb, h.hb, h.hw, h.wb, hb.cell h.h0 n1, hb.cell h.h1 n1, hb.cell h.h2 n1, hb.cell h.h3 n1, hb.free h.h0 n1 h.f0, hb.free h.h1 n1 h.f1, hb.free h.h2 n1 h.f2, hb.free h.h3 n1 h.f3⟩

set_option maxRecDepth 100000 in
set_option maxHeartbeats 3200000 in
theorem pRuleN (ts : List (List UInt8)) (g cp : Nat) (hne : 0 < ts.length) (hcp : ts.length ≤ cp) (hl : ∀ i, (ts.getD i []).length ≤ 1000000) (hno1 : ¬ (ts.length = 4 ∧ ts.getD 0 [] = sDefault)) (hno2 : ¬ (ts.length = 5 ∧ ts.getD 0 [] = sRule)) (w : World) (hc : StrsAt w g ts) :
    Calls Tryz.prog 58 #[.slice (some ⟨g, 0, none⟩) ts.length cp] w fun e w' => e = .returned (.tuple #[rlV (rpar ts).1, .int .u16 (rpar ts).2.1, .int .i64 (rpar ts).2.2]) ∧ Ext w w' := by
  have hR := Lib.hid (rpar_no hno1 hno2)
  generalize rpar ts = RP at *
  go_enter Tryz.func58, Tryz.ntmps58
  go_wp2_with fail
  obtain ⟨W0, hW0⟩ : ∃ W0, w.alloc (.cells #[.string ⟨#[]⟩, .int .u64 0, .int .u64 0, .int .u8 0] 47) = W0 := ⟨_, rfl⟩
  have x0 : Ext w W0 := by subst hW0; repeat (first | exact Ext.refl _ | assumption | apply Ext.drew | apply Ext.alloc | (refine Ext.setCell ?_ (by simp <;> omega) _) | refine Ext.trans ?_ (by assumption))
  have z0 : w.heap.size < W0.heap.size := by subst hW0; simp
  have a0 : W0.cell? ⟨w.heap.size, 0, none⟩ = some (.string ⟨#[]⟩) := by subst hW0; go_simp
  have a1 : W0.cell? ⟨w.heap.size, 1, none⟩ = some (.int .u64 0) := by subst hW0; go_simp
  have a2 : W0.cell? ⟨w.heap.size, 2, none⟩ = some (.int .u64 0) := by subst hW0; go_simp
  have a3 : W0.cell? ⟨w.heap.size, 3, none⟩ = some (.int .u8 0) := by subst hW0; go_simp
  have b0 : W0.frozen? ⟨w.heap.size, 0, none⟩ = false := by subst hW0; go_simp
  have b1 : W0.frozen? ⟨w.heap.size, 1, none⟩ = false := by subst hW0; go_simp
  have b2 : W0.frozen? ⟨w.heap.size, 2, none⟩ = false := by subst hW0; go_simp
  have b3 : W0.frozen? ⟨w.heap.size, 3, none⟩ = false := by subst hW0; go_simp
  rw [hW0]
  clear hW0
  refine (pNumber 81 24 W0).mono ?_
  rintro e w1 ⟨rfl, d2, d3, x1⟩
  obtain ⟨W2, W3, v, m1, m2, m3, x3, vD, vR, vN⟩ := partsMap w1 W0.heap.size (W0.heap.size + 1) (ts.getD 0 [])
  have hmm := @run_makeMap Tryz.prog
  have hEq := eqNil
  have c0 := (x0.trans (x1.trans x3)).reads (hc 0 (by omega))
  simp only [fnE, fnB, fnN, fnP] at m1 m2
  have x03 := x1.trans x3
  have y0 := x03.reads a0
  have y1 := x03.reads a1
  have y2 := x03.reads a2
  have y3 := x03.reads a3
  have u0 := x03.free a0 b0
  have u1 := x03.free a1 b1
  have u2 := x03.free a2 b2
  have u3 := x03.free a3 b3
  by_cases hd : ts.getD 0 [] = sDefault
  · obtain ⟨G, rfl, p0, p1, p2⟩ := vD hd
    have hn : ¬ (ts.length : Int) = 4 := fun h => hno1 ⟨by omega, hd⟩
    clear vD vR vN hno1 hno2 hd hl hc
    generalize strOf (ts.getD 0 []) = S0 at *
    generalize ts.length = n at *
    go_wp2
    refine bodyPost_ret (v := .tuple #[rlV Rl0, .int .u16 22, .int .i64 0]) (by simp [results, Tryz.results58, go_sem, rlV, Rl0, strOf, y0, y1, y2, y3]) rfl ⟨?_, ?_⟩
    · exact ret_rulep (hR.out.symm)
    · exact ((((But.refl (fun x => x = w.heap.size) W3).setCell rfl _).setCell rfl _).setCell rfl _ |>.setCell rfl _).ext (x0.trans (x1.trans x3)) (by rintro x rfl; exact Nat.le_refl _)
  by_cases hr : ts.getD 0 [] = sRule
  · obtain ⟨G, rfl, p0, p1, p2, p3⟩ := vR hr
    have hn : ¬ (ts.length : Int) = 5 := fun h => hno2 ⟨by omega, hr⟩
    clear vD vR vN hno1 hno2 hd hr hl hc
    generalize strOf (ts.getD 0 []) = S0 at *
    generalize ts.length = n at *
    go_wp2
    refine bodyPost_ret (v := .tuple #[rlV Rl0, .int .u16 22, .int .i64 0]) (by simp [results, Tryz.results58, go_sem, rlV, Rl0, strOf, y0, y1, y2, y3]) rfl ⟨?_, ?_⟩
    · exact ret_rulep (hR.out.symm)
    · exact ((((But.refl (fun x => x = w.heap.size) W3).setCell rfl _).setCell rfl _).setCell rfl _ |>.setCell rfl _).ext (x0.trans (x1.trans x3)) (by rintro x rfl; exact Nat.le_refl _)
  obtain rfl := vN hd hr
  clear vD vR vN hno1 hno2 hd hr hl hc
  generalize strOf (ts.getD 0 []) = S0 at *
  generalize ts.length = n at *
  go_wp2
  refine bodyPost_ret (v := .tuple #[rlV Rl0, .int .u16 22, .int .i64 0]) (by simp [results, Tryz.results58, go_sem, rlV, Rl0, strOf, y0, y1, y2, y3]) rfl ⟨?_, ?_⟩
  · exact ret_rulep (hR.out.symm)
  · exact ((((But.refl (fun x => x = w.heap.size) W3).setCell rfl _).setCell rfl _).setCell rfl _ |>.setCell rfl _).ext (x0.trans (x1.trans x3)) (by rintro x rfl; exact Nat.le_refl _)

set_option maxRecDepth 100000 in
set_option maxHeartbeats 3200000 in
theorem pRuleD (ts : List (List UInt8)) (g cp : Nat) (hne : 0 < ts.length) (hcp : ts.length ≤ cp) (hl : ∀ i, (ts.getD i []).length ≤ 1000000) (hlen : ts.length = 4) (h0 : ts.getD 0 [] = sDefault) (w : World) (hc : StrsAt w g ts) :
    Calls Tryz.prog 58 #[.slice (some ⟨g, 0, none⟩) ts.length cp] w fun e w' => e = .returned (.tuple #[rlV (rpar ts).1, .int .u16 (rpar ts).2.1, .int .i64 (rpar ts).2.2]) ∧ Ext w w' := by
  have hRp := Lib.hid (rpar_default hlen h0)
  generalize hRPx : rpar ts = RP at *
  clear hRPx
  go_enter Tryz.func58, Tryz.ntmps58
  go_wp2_with fail
  obtain ⟨W0, hW0⟩ : ∃ W0, w.alloc (.cells #[.string ⟨#[]⟩, .int .u64 0, .int .u64 0, .int .u8 0] 47) = W0 := ⟨_, rfl⟩
  have x0 : Ext w W0 := by subst hW0; repeat (first | exact Ext.refl _ | assumption | apply Ext.drew | apply Ext.alloc | (refine Ext.setCell ?_ (by simp <;> omega) _) | refine Ext.trans ?_ (by assumption))
  have z0 : w.heap.size < W0.heap.size := by subst hW0; simp
  have a0 : W0.cell? ⟨w.heap.size, 0, none⟩ = some (.string ⟨#[]⟩) := by subst hW0; go_simp
  have a1 : W0.cell? ⟨w.heap.size, 1, none⟩ = some (.int .u64 0) := by subst hW0; go_simp
  have a2 : W0.cell? ⟨w.heap.size, 2, none⟩ = some (.int .u64 0) := by subst hW0; go_simp
  have a3 : W0.cell? ⟨w.heap.size, 3, none⟩ = some (.int .u8 0) := by subst hW0; go_simp
  have b0 : W0.frozen? ⟨w.heap.size, 0, none⟩ = false := by subst hW0; go_simp
  have b1 : W0.frozen? ⟨w.heap.size, 1, none⟩ = false := by subst hW0; go_simp
  have b2 : W0.frozen? ⟨w.heap.size, 2, none⟩ = false := by subst hW0; go_simp
  have b3 : W0.frozen? ⟨w.heap.size, 3, none⟩ = false := by subst hW0; go_simp
  rw [hW0]
  clear hW0
  refine (pNumber 81 24 W0).mono ?_
  rintro e w1 ⟨rfl, d2, d3, x1⟩
  obtain ⟨W2, W3, v, m1, m2, m3, x3, vD, vR, vN⟩ := partsMap w1 W0.heap.size (W0.heap.size + 1) (ts.getD 0 [])
  have hmm := @run_makeMap Tryz.prog
  have hEq := eqNil
  have c0 := (x0.trans (x1.trans x3)).reads (hc 0 (by omega))
  simp only [fnE, fnB, fnN, fnP] at m1 m2
  obtain ⟨G, rfl, p0, p1, p2⟩ := vD h0
  have hGs : G < W3.heap.size := World.block_lt_of_cell? W3 _ p0
  have x03 := x1.trans x3
  have y0 := x03.reads a0
  have y1 := x03.reads a1
  have y2 := x03.reads a2
  have y3 := x03.reads a3
  have u0 := x03.free a0 b0
  have u1 := x03.free a1 b1
  have u2 := x03.free a2 b2
  have u3 := x03.free a3 b3
  have hl4 : ts.length = 4 := hlen
  have hBR := Lib.hid (And.intro hGs hl4)
  clear vD vR vN
  rw [hl4] at hcp ⊢
  generalize strOf (ts.getD 0 []) = S0 at c0 m3
  go_wp2
  obtain ⟨W4, hW4⟩ : ∃ W4, W3.alloc (.cells #[.string ⟨#[]⟩, .int .u64 0, .int .u64 0, .int .u8 0] 47) = W4 := ⟨_, rfl⟩
  have hB0 : RBox W4 W3.heap.size Rl0 := by subst hW4; exact ⟨by go_simp; rfl, by go_simp; rfl, by go_simp; rfl, by go_simp; rfl, by go_simp, by go_simp, by go_simp, by go_simp⟩
  have x34 : Ext W3 W4 := by subst hW4; exact (Ext.refl _).alloc _
  have hgB : g < W3.heap.size := World.block_lt_of_cell? W3 _ c0
  have hRW : RW w W4 w.heap.size W3.heap.size g ts := ⟨x0.trans (x03.trans x34), hc.ext (x0.trans (x03.trans x34)), hgB, Nat.lt_of_lt_of_le z0 x03.size, Nat.le_refl _, Nat.le_of_lt (Nat.lt_of_lt_of_le z0 x03.size), x34.reads y0, x34.reads y1, x34.reads y2, x34.reads y3, x34.free y0 u0, x34.free y1 u1, x34.free y2 u2, x34.free y3 u3⟩
  have q0 := x34.reads p0
  have q1 := x34.reads p1
  have q2 := x34.reads p2
  have e2 := (x03.trans x34).reads ((Ext.refl W0).reads (show W0.cell? ⟨w.heap.size, 0, none⟩ = _ from a0))
  have d2' := (x3.trans x34).reads d2
  have d3' := (x3.trans x34).reads d3
  have hWs : W0.heap.size + 1 < W3.heap.size := World.block_lt_of_cell? W3 _ (x3.reads d3)
  rw [hW4]
  clear hW4 e2 y0 y1 y2 y3 u0 u1 u2 u3 a0 a1 a2 a3 b0 b1 b2 b3 d2 d3 m1 m2 m3 hmm hEq c0 p0 p1 p2
  simp only [fnE, fnB, fnN, fnP] at q0 q1 q2
  generalize hBRe : W3.heap.size = BR at *
  have hRWH := Lib.hid hRW
  have hB0H := Lib.hid hB0
  clear hRW hB0
  go_loopw [8, 9, 10, 39] (fun _ _ _ i wr => ∃ (k : Nat) (R : Rl), k ≤ 3 ∧ i = .int .i64 k ∧ Hid (stg ts 1 [] k R) ∧ Hid (RBox wr BR R) ∧ Hid (But (fun x => x = BR) W4 wr)) (fun _ _ _ i _ => 3 - (intOf i).toNat)
  case atStart => exact ⟨0, Rl0, Nat.zero_le _, rfl, Lib.hid (stg0 ts 1 []), hB0H, Lib.hid (But.refl _ _)⟩
  case round =>
    obtain ⟨k, R, hk, rfl, hS, hB, hX⟩ := hrel
    have hRWk := Lib.hid (hRWH.out.at hX.out)
    by_cases hk0 : k = 0
    · subst hk0
      have qk := hX.out.cell q0 (show ¬ G = BR by omega)
      have tk := hRWk.out.st 1 (by omega)
      have dk2 := hX.out.cell d2' (show ¬ W0.heap.size = BR by omega)
      have dk3 := hX.out.cell d3' (show ¬ W0.heap.size + 1 = BR by omega)
      have hP := pNumE 24 (.inl rfl) BR W0.heap.size (W0.heap.size + 1) (ts.getD 1 []) (hl 1) R.ev wr dk2 dk3 hB.out.c1 hB.out.f1 (by omega)
      obtain ⟨E, eE⟩ : ∃ E, numE (ts.getD 1 []) 24 = E := ⟨_, rfl⟩
      have hN := fun h : E = 0 => stg1 hS.out (by rw [eE]; exact h)
      have hEr := fun h : E ≠ 0 => hRp.out.trans (stg_e1 (a := 1) (pre := []) (by rw [eE]; exact h))
      rw [eE] at hP hEr
      have hB5 := Lib.hid (hB.out.set1 (dV (ts.getD 1 [])))
      have hX5 := Lib.hid (hX.out.trans ((But.refl (fun x => x = BR) wr).setCell (p := ⟨BR, 1, none⟩) rfl (.int .u64 (dV (ts.getD 1 [])))))
      generalize dV (ts.getD 1 []) = VV at *
      have hN := Lib.hid hN
      have hEr := Lib.hid hEr
      clear hB hS hRWk
      generalize strOf (ts.getD 1 []) = SK at *
      go_wp2_with fail
      refine hP.mono ?_
      rintro e w5 ⟨rfl, rfl⟩
      have hRW5 := hRWH.out.at hX5.out
      clear hP
      by_cases hE0 : E = 0
      · have hN2 := Lib.hid (hN.out hE0)
        clear hN hRW5 hEr
        subst hE0
        go_wp2
        go_roundw
        case rel => exact ⟨1, _, by omega, by go_num, hN2, hB5, hX5⟩
        case measure => (simp [intOf]) <;> omega
      · have hEr2 := Lib.hid (hEr.out hE0)
        have hE0' : (E != 0) = true := by simp [hE0]
        obtain ⟨xR, _, _, _, xw, _, g0, g1, g2, g3, k0, k1, k2, k3⟩ := hRW5
        clear hN hB5 hX5 hEr
        go_wp2
        refine bodyPost_ret (v := .tuple #[rlV Rl0, .int .u16 E, .int .i64 1]) (by simp [results, Tryz.results58, go_sem, rlV, Rl0, strOf, g0, g1, g2, g3]) rfl ⟨?_, ?_⟩
        · exact ret_rulep (hEr2.out.symm)
        · exact ((((But.refl (fun x => x = w.heap.size) (wr.setCell ⟨BR, 1, none⟩ (.int .u64 VV))).setCell rfl _).setCell rfl _).setCell rfl _ |>.setCell rfl _).ext xR (by rintro x rfl; exact Nat.le_refl _)
    by_cases hk1 : k = 1
    · subst hk1
      have qk := hX.out.cell q1 (show ¬ G = BR by omega)
      have tk := hRWk.out.st 2 (by omega)
      have hev : U R.ev := (by rw [stg_ev hS.out]; exact dV_U _)
      have hP := pBurst BR R (ts.getD 2 []) (hl 2) hev wr hB.out
      obtain ⟨E, eE⟩ : ∃ E, burE R.ev (ts.getD 2 []) = E := ⟨_, rfl⟩
      have hN := fun h : E = 0 => stg2 hS.out (by rw [eE]; exact h)
      have hEr := fun h : E ≠ 0 => hRp.out.trans (stg_e2 hS.out (by rw [eE]; exact h))
      rw [eE] at hP hEr
      have hN := Lib.hid hN
      have hEr := Lib.hid hEr
      clear hB hS hRWk
      generalize strOf (ts.getD 2 []) = SK at *
      go_wp2_with fail
      refine hP.mono ?_
      rintro e w5 ⟨rfl, hB5, hX5⟩
      have hB5 := Lib.hid hB5
      have hX5 := Lib.hid (hX.out.trans hX5)
      have hRW5 := hRWH.out.at hX5.out
      clear hP
      by_cases hE0 : E = 0
      · have hN2 := Lib.hid (hN.out hE0)
        clear hN hRW5 hEr
        subst hE0
        go_wp2
        go_roundw
        case rel => exact ⟨2, _, by omega, by go_num, hN2, hB5, hX5⟩
        case measure => (simp [intOf]) <;> omega
      · have hEr2 := Lib.hid (hEr.out hE0)
        have hE0' : (E != 0) = true := by simp [hE0]
        obtain ⟨xR, _, _, _, xw, _, g0, g1, g2, g3, k0, k1, k2, k3⟩ := hRW5
        clear hN hB5 hX5 hEr
        go_wp2
        refine bodyPost_ret (v := .tuple #[rlV Rl0, .int .u16 E, .int .i64 2]) (by simp [results, Tryz.results58, go_sem, rlV, Rl0, strOf, g0, g1, g2, g3]) rfl ⟨?_, ?_⟩
        · exact ret_rulep (hEr2.out.symm)
        · exact ((((But.refl (fun x => x = w.heap.size) w5).setCell rfl _).setCell rfl _).setCell rfl _ |>.setCell rfl _).ext xR (by rintro x rfl; exact Nat.le_refl _)
    by_cases hk2 : k = 2
    · subst hk2
      have qk := hX.out.cell q2 (show ¬ G = BR by omega)
      have tk := hRWk.out.st 3 (by omega)
      have hP := pNamed BR R (ts.getD 3 []) wr hB.out
      have hN := fun h : (if kindN (ts.getD 3 []) = 0 then (27 : Int) else 0) = 0 => stg3 hS.out (fun hh => by rw [if_pos hh] at h; cases h)
      have hEr : (if kindN (ts.getD 3 []) = 0 then (27 : Int) else 0) ≠ 0 → RP = (Rl0, (if kindN (ts.getD 3 []) = 0 then (27 : Int) else 0), ((3 : Nat) : Int)) := fun h => by
        have hh : kindN (ts.getD 3 []) = 0 := by by_cases hh : kindN (ts.getD 3 []) = 0; exact hh; rw [if_neg hh] at h; exact absurd rfl h
        rw [if_pos hh]
        exact hRp.out.trans (stg_e3 hS.out hh)
      generalize (if kindN (ts.getD 3 []) = 0 then (27 : Int) else 0) = E at *
      have hN := Lib.hid hN
      have hEr := Lib.hid hEr
      clear hB hS hRWk
      generalize strOf (ts.getD 3 []) = SK at *
      go_wp2_with fail
      refine hP.mono ?_
      rintro e w5 ⟨rfl, hB5, hX5⟩
      have hB5 := Lib.hid hB5
      have hX5 := Lib.hid (hX.out.trans hX5)
      have hRW5 := hRWH.out.at hX5.out
      clear hP
      by_cases hE0 : E = 0
      · have hN2 := Lib.hid (hN.out hE0)
        clear hN hRW5 hEr
        subst hE0
        go_wp2
        go_roundw
        case rel => exact ⟨3, _, by omega, by go_num, hN2, hB5, hX5⟩
        case measure => (simp [intOf]) <;> omega
      · have hEr2 := Lib.hid (hEr.out hE0)
        have hE0' : (E != 0) = true := by simp [hE0]
        obtain ⟨xR, _, _, _, xw, _, g0, g1, g2, g3, k0, k1, k2, k3⟩ := hRW5
        clear hN hB5 hX5 hEr
        go_wp2
        refine bodyPost_ret (v := .tuple #[rlV Rl0, .int .u16 E, .int .i64 3]) (by simp [results, Tryz.results58, go_sem, rlV, Rl0, strOf, g0, g1, g2, g3]) rfl ⟨?_, ?_⟩
        · exact ret_rulep (hEr2.out.symm)
        · exact ((((But.refl (fun x => x = w.heap.size) w5).setCell rfl _).setCell rfl _).setCell rfl _ |>.setCell rfl _).ext xR (by rintro x rfl; exact Nat.le_refl _)
    obtain rfl : k = 3 := by omega
    have hF := Lib.hid (hRp.out.trans (stg_ok hS.out))
    obtain ⟨xR, _, _, _, xw, _, g0, g1, g2, g3, k0, k1, k2, k3⟩ := hRWk.out
    obtain ⟨s0, s1, s2, s3, _, _, _, _⟩ := hB.out
    have hm : w.heap.size ≠ BR := fun e => by have := hRWH.out.hb; omega
    clear hS hB hX hRWk
    go_wp2
    refine bodyPost_ret (v := .tuple #[rlV R, .int .u16 0, .int .i64 0]) (by simp [results, Tryz.results58, go_sem, rlV, g0, g1, g2, g3]) rfl ⟨?_, ?_⟩
    · exact ret_rulep (hF.out.symm)
    · exact ((((But.refl (fun x => x = w.heap.size) wr).setCell rfl _).setCell rfl _).setCell rfl _ |>.setCell rfl _).ext xR (by rintro x rfl; exact Nat.le_refl _)

/-- after k parts of a rule -/
def stgR (ts : List (List UInt8)) (k : Nat) (R : Rl) : Prop := (k = 0 → R = Rl0) ∧ (1 ≤ k → kRight (ts.getD 1 []) = true ∧ stg ts 2 (ts.getD 1 []) (k - 1) R)
theorem stgR0 (ts : List (List UInt8)) : stgR ts 0 Rl0 := ⟨fun _ => rfl, by omega⟩
theorem stgR1 {ts : List (List UInt8)} {R : Rl} (h : stgR ts 0 R) (hk : kRight (ts.getD 1 []) = true) : stgR ts 1 { R with pre := ts.getD 1 [] } := by
  have := h.1 rfl; subst this
  exact ⟨by omega, fun _ => ⟨hk, stg0 ts 2 _⟩⟩
theorem stgR2 {ts : List (List UInt8)} {R : Rl} (h : stgR ts 1 R) (he : numE (ts.getD 2 []) 24 = 0) : stgR ts 2 { R with ev := dV (ts.getD 2 []) } := ⟨by omega, fun _ => ⟨(h.2 (by omega)).1, stg1 (h.2 (by omega)).2 he⟩⟩
theorem stgR3 {ts : List (List UInt8)} {R : Rl} (h : stgR ts 2 R) (he : burE R.ev (ts.getD 3 []) = 0) : stgR ts 3 { R with bu := dV (ts.getD 3 []) } := ⟨by omega, fun _ => ⟨(h.2 (by omega)).1, stg2 (h.2 (by omega)).2 he⟩⟩
theorem stgR4 {ts : List (List UInt8)} {R : Rl} (h : stgR ts 3 R) (he : kindN (ts.getD 4 []) ≠ 0) : stgR ts 4 { R with kd := kindN (ts.getD 4 []) } := ⟨by omega, fun _ => ⟨(h.2 (by omega)).1, stg3 (h.2 (by omega)).2 he⟩⟩

set_option maxRecDepth 100000 in
set_option maxHeartbeats 3200000 in
theorem pRuleR (ts : List (List UInt8)) (g cp : Nat) (hne : 0 < ts.length) (hcp : ts.length ≤ cp) (hl : ∀ i, (ts.getD i []).length ≤ 1000000) (hlen : ts.length = 5) (h0 : ts.getD 0 [] = sRule) (w : World) (hc : StrsAt w g ts) :
    Calls Tryz.prog 58 #[.slice (some ⟨g, 0, none⟩) ts.length cp] w fun e w' => e = .returned (.tuple #[rlV (rpar ts).1, .int .u16 (rpar ts).2.1, .int .i64 (rpar ts).2.2]) ∧ Ext w w' := by
  have hRp := Lib.hid (And.intro (rpar_rule hlen h0) (rpar_key hlen h0))
  generalize hRPx : rpar ts = RP at *
  clear hRPx
  go_enter Tryz.func58, Tryz.ntmps58
  go_wp2_with fail
  obtain ⟨W0, hW0⟩ : ∃ W0, w.alloc (.cells #[.string ⟨#[]⟩, .int .u64 0, .int .u64 0, .int .u8 0] 47) = W0 := ⟨_, rfl⟩
  have x0 : Ext w W0 := by subst hW0; repeat (first | exact Ext.refl _ | assumption | apply Ext.drew | apply Ext.alloc | (refine Ext.setCell ?_ (by simp <;> omega) _) | refine Ext.trans ?_ (by assumption))
  have z0 : w.heap.size < W0.heap.size := by subst hW0; simp
  have a0 : W0.cell? ⟨w.heap.size, 0, none⟩ = some (.string ⟨#[]⟩) := by subst hW0; go_simp
  have a1 : W0.cell? ⟨w.heap.size, 1, none⟩ = some (.int .u64 0) := by subst hW0; go_simp
  have a2 : W0.cell? ⟨w.heap.size, 2, none⟩ = some (.int .u64 0) := by subst hW0; go_simp
  have a3 : W0.cell? ⟨w.heap.size, 3, none⟩ = some (.int .u8 0) := by subst hW0; go_simp
  have b0 : W0.frozen? ⟨w.heap.size, 0, none⟩ = false := by subst hW0; go_simp
  have b1 : W0.frozen? ⟨w.heap.size, 1, none⟩ = false := by subst hW0; go_simp
  have b2 : W0.frozen? ⟨w.heap.size, 2, none⟩ = false := by subst hW0; go_simp
  have b3 : W0.frozen? ⟨w.heap.size, 3, none⟩ = false := by subst hW0; go_simp
  rw [hW0]
  clear hW0
  refine (pNumber 81 24 W0).mono ?_
  rintro e w1 ⟨rfl, d2, d3, x1⟩
  obtain ⟨W2, W3, v, m1, m2, m3, x3, vD, vR, vN⟩ := partsMap w1 W0.heap.size (W0.heap.size + 1) (ts.getD 0 [])
  have hmm := @run_makeMap Tryz.prog
  have hEq := eqNil
  have c0 := (x0.trans (x1.trans x3)).reads (hc 0 (by omega))
  simp only [fnE, fnB, fnN, fnP] at m1 m2
  obtain ⟨G, rfl, p0, p1, p2, p3⟩ := vR h0
  have hGs : G < W3.heap.size := World.block_lt_of_cell? W3 _ p0
  have x03 := x1.trans x3
  have y0 := x03.reads a0
  have y1 := x03.reads a1
  have y2 := x03.reads a2
  have y3 := x03.reads a3
  have u0 := x03.free a0 b0
  have u1 := x03.free a1 b1
  have u2 := x03.free a2 b2
  have u3 := x03.free a3 b3
  have hl4 : ts.length = 5 := hlen
  have hBR := Lib.hid (And.intro hGs hl4)
  clear vD vR vN
  rw [hl4] at hcp ⊢
  generalize strOf (ts.getD 0 []) = S0 at c0 m3
  go_wp2
  obtain ⟨W4, hW4⟩ : ∃ W4, W3.alloc (.cells #[.string ⟨#[]⟩, .int .u64 0, .int .u64 0, .int .u8 0] 47) = W4 := ⟨_, rfl⟩
  have hB0 : RBox W4 W3.heap.size Rl0 := by subst hW4; exact ⟨by go_simp; rfl, by go_simp; rfl, by go_simp; rfl, by go_simp; rfl, by go_simp, by go_simp, by go_simp, by go_simp⟩
  have x34 : Ext W3 W4 := by subst hW4; exact (Ext.refl _).alloc _
  have hgB : g < W3.heap.size := World.block_lt_of_cell? W3 _ c0
  have hRW : RW w W4 w.heap.size W3.heap.size g ts := ⟨x0.trans (x03.trans x34), hc.ext (x0.trans (x03.trans x34)), hgB, Nat.lt_of_lt_of_le z0 x03.size, Nat.le_refl _, Nat.le_of_lt (Nat.lt_of_lt_of_le z0 x03.size), x34.reads y0, x34.reads y1, x34.reads y2, x34.reads y3, x34.free y0 u0, x34.free y1 u1, x34.free y2 u2, x34.free y3 u3⟩
  have q0 := x34.reads p0
  have q1 := x34.reads p1
  have q2 := x34.reads p2
  have q3 := x34.reads p3
  have e2 := (x03.trans x34).reads ((Ext.refl W0).reads (show W0.cell? ⟨w.heap.size, 0, none⟩ = _ from a0))
  have d2' := (x3.trans x34).reads d2
  have d3' := (x3.trans x34).reads d3
  have hWs : W0.heap.size + 1 < W3.heap.size := World.block_lt_of_cell? W3 _ (x3.reads d3)
  rw [hW4]
  clear hW4 e2 y0 y1 y2 y3 u0 u1 u2 u3 a0 a1 a2 a3 b0 b1 b2 b3 d2 d3 m1 m2 m3 hmm hEq c0 p0 p1 p2 p3
  simp only [fnE, fnB, fnN, fnP] at q0 q1 q2 q3
  generalize hBRe : W3.heap.size = BR at *
  have hRWH := Lib.hid hRW
  have hB0H := Lib.hid hB0
  clear hRW hB0
  go_loopw [8, 9, 10, 39] (fun _ _ _ i wr => ∃ (k : Nat) (R : Rl), k ≤ 4 ∧ i = .int .i64 k ∧ Hid (stgR ts k R) ∧ Hid (RBox wr BR R) ∧ Hid (But (fun x => x = BR) W4 wr)) (fun _ _ _ i _ => 4 - (intOf i).toNat)
  case atStart => exact ⟨0, Rl0, Nat.zero_le _, rfl, Lib.hid (stgR0 ts), hB0H, Lib.hid (But.refl _ _)⟩
  case round =>
    obtain ⟨k, R, hk, rfl, hS, hB, hX⟩ := hrel
    have hRWk := Lib.hid (hRWH.out.at hX.out)
    by_cases hk0 : k = 0
    · subst hk0
      have qk := hX.out.cell q0 (show ¬ G = BR by omega)
      have tk := hRWk.out.st 1 (by omega)
      have hP := pPrefix BR R (ts.getD 1 []) wr hB.out
      have hN := fun h : (if kRight (ts.getD 1 []) then (0 : Int) else 23) = 0 => stgR1 hS.out (by by_cases hh : kRight (ts.getD 1 []) = true; exact hh; rw [if_neg hh] at h; cases h)
      have hEr : (if kRight (ts.getD 1 []) then (0 : Int) else 23) ≠ 0 → RP = (Rl0, (if kRight (ts.getD 1 []) then (0 : Int) else 23), ((1 : Nat) : Int)) := fun h => by
        have hh : kRight (ts.getD 1 []) = false := by by_cases hh : kRight (ts.getD 1 []) = true; rw [if_pos hh] at h; exact absurd rfl h; simpa using hh
        rw [hh]
        exact hRp.out.2 hh
      generalize (if kRight (ts.getD 1 []) then (0 : Int) else 23) = E at *
      have hN := Lib.hid hN
      have hEr := Lib.hid hEr
      clear hB hS hRWk
      generalize strOf (ts.getD 1 []) = SK at *
      go_wp2_with fail
      refine hP.mono ?_
      rintro e w5 ⟨rfl, hB5, hX5⟩
      have hB5 := Lib.hid hB5
      have hX5 := Lib.hid (hX.out.trans hX5)
      have hRW5 := hRWH.out.at hX5.out
      clear hP
      by_cases hE0 : E = 0
      · have hN2 := Lib.hid (hN.out hE0)
        clear hN hRW5 hEr
        subst hE0
        go_wp2
        go_roundw
        case rel => exact ⟨1, _, by omega, by go_num, hN2, hB5, hX5⟩
        case measure => (simp [intOf]) <;> omega
      · have hEr2 := Lib.hid (hEr.out hE0)
        have hE0' : (E != 0) = true := by simp [hE0]
        obtain ⟨xR, _, _, _, xw, _, g0, g1, g2, g3, k0, k1, k2, k3⟩ := hRW5
        clear hN hB5 hX5 hEr
        go_wp2
        refine bodyPost_ret (v := .tuple #[rlV Rl0, .int .u16 E, .int .i64 1]) (by simp [results, Tryz.results58, go_sem, rlV, Rl0, strOf, g0, g1, g2, g3]) rfl ⟨?_, ?_⟩
        · exact ret_rulep (hEr2.out.symm)
        · exact ((((But.refl (fun x => x = w.heap.size) w5).setCell rfl _).setCell rfl _).setCell rfl _ |>.setCell rfl _).ext xR (by rintro x rfl; exact Nat.le_refl _)
    by_cases hk1 : k = 1
    · subst hk1
      have qk := hX.out.cell q1 (show ¬ G = BR by omega)
      have tk := hRWk.out.st 2 (by omega)
      have dk2 := hX.out.cell d2' (show ¬ W0.heap.size = BR by omega)
      have dk3 := hX.out.cell d3' (show ¬ W0.heap.size + 1 = BR by omega)
      have hP := pNumE 24 (.inl rfl) BR W0.heap.size (W0.heap.size + 1) (ts.getD 2 []) (hl 2) R.ev wr dk2 dk3 hB.out.c1 hB.out.f1 (by omega)
      obtain ⟨E, eE⟩ : ∃ E, numE (ts.getD 2 []) 24 = E := ⟨_, rfl⟩
      have hN := fun h : E = 0 => stgR2 hS.out (by rw [eE]; exact h)
      have hEr := fun h : E ≠ 0 => (hRp.out.1 (hS.out.2 (by omega)).1).trans (stg_e1 (a := 2) (pre := ts.getD 1 []) (by rw [eE]; exact h))
      rw [eE] at hP hEr
      have hB5 := Lib.hid (hB.out.set1 (dV (ts.getD 2 [])))
      have hX5 := Lib.hid (hX.out.trans ((But.refl (fun x => x = BR) wr).setCell (p := ⟨BR, 1, none⟩) rfl (.int .u64 (dV (ts.getD 2 [])))))
      generalize dV (ts.getD 2 []) = VV at *
      have hN := Lib.hid hN
      have hEr := Lib.hid hEr
      clear hB hS hRWk
      generalize strOf (ts.getD 2 []) = SK at *
      go_wp2_with fail
      refine hP.mono ?_
      rintro e w5 ⟨rfl, rfl⟩
      have hRW5 := hRWH.out.at hX5.out
      clear hP
      by_cases hE0 : E = 0
      · have hN2 := Lib.hid (hN.out hE0)
        clear hN hRW5 hEr
        subst hE0
        go_wp2
        go_roundw
        case rel => exact ⟨2, _, by omega, by go_num, hN2, hB5, hX5⟩
        case measure => (simp [intOf]) <;> omega
      · have hEr2 := Lib.hid (hEr.out hE0)
        have hE0' : (E != 0) = true := by simp [hE0]
        obtain ⟨xR, _, _, _, xw, _, g0, g1, g2, g3, k0, k1, k2, k3⟩ := hRW5
        clear hN hB5 hX5 hEr
        go_wp2
        refine bodyPost_ret (v := .tuple #[rlV Rl0, .int .u16 E, .int .i64 2]) (by simp [results, Tryz.results58, go_sem, rlV, Rl0, strOf, g0, g1, g2, g3]) rfl ⟨?_, ?_⟩
        · exact ret_rulep (hEr2.out.symm)
        · exact ((((But.refl (fun x => x = w.heap.size) (wr.setCell ⟨BR, 1, none⟩ (.int .u64 VV))).setCell rfl _).setCell rfl _).setCell rfl _ |>.setCell rfl _).ext xR (by rintro x rfl; exact Nat.le_refl _)
    by_cases hk2 : k = 2
    · subst hk2
      have qk := hX.out.cell q2 (show ¬ G = BR by omega)
      have tk := hRWk.out.st 3 (by omega)
      have hev : U R.ev := (by rw [stg_ev (hS.out.2 (by omega)).2]; exact dV_U _)
      have hP := pBurst BR R (ts.getD 3 []) (hl 3) hev wr hB.out
      obtain ⟨E, eE⟩ : ∃ E, burE R.ev (ts.getD 3 []) = E := ⟨_, rfl⟩
      have hN := fun h : E = 0 => stgR3 hS.out (by rw [eE]; exact h)
      have hEr := fun h : E ≠ 0 => (hRp.out.1 (hS.out.2 (by omega)).1).trans (stg_e2 (hS.out.2 (by omega)).2 (by rw [eE]; exact h))
      rw [eE] at hP hEr
      have hN := Lib.hid hN
      have hEr := Lib.hid hEr
      clear hB hS hRWk
      generalize strOf (ts.getD 3 []) = SK at *
      go_wp2_with fail
      refine hP.mono ?_
      rintro e w5 ⟨rfl, hB5, hX5⟩
      have hB5 := Lib.hid hB5
      have hX5 := Lib.hid (hX.out.trans hX5)
      have hRW5 := hRWH.out.at hX5.out
      clear hP
      by_cases hE0 : E = 0
      · have hN2 := Lib.hid (hN.out hE0)
        clear hN hRW5 hEr
        subst hE0
        go_wp2
        go_roundw
        case rel => exact ⟨3, _, by omega, by go_num, hN2, hB5, hX5⟩
        case measure => (simp [intOf]) <;> omega
      · have hEr2 := Lib.hid (hEr.out hE0)
        have hE0' : (E != 0) = true := by simp [hE0]
        obtain ⟨xR, _, _, _, xw, _, g0, g1, g2, g3, k0, k1, k2, k3⟩ := hRW5
        clear hN hB5 hX5 hEr
        go_wp2
        refine bodyPost_ret (v := .tuple #[rlV Rl0, .int .u16 E, .int .i64 3]) (by simp [results, Tryz.results58, go_sem, rlV, Rl0, strOf, g0, g1, g2, g3]) rfl ⟨?_, ?_⟩
        · exact ret_rulep (hEr2.out.symm)
        · exact ((((But.refl (fun x => x = w.heap.size) w5).setCell rfl _).setCell rfl _).setCell rfl _ |>.setCell rfl _).ext xR (by rintro x rfl; exact Nat.le_refl _)
    by_cases hk3 : k = 3
    · subst hk3
      have qk := hX.out.cell q3 (show ¬ G = BR by omega)
      have tk := hRWk.out.st 4 (by omega)
      have hP := pNamed BR R (ts.getD 4 []) wr hB.out
      have hN := fun h : (if kindN (ts.getD 4 []) = 0 then (27 : Int) else 0) = 0 => stgR4 hS.out (fun hh => by rw [if_pos hh] at h; cases h)
      have hEr : (if kindN (ts.getD 4 []) = 0 then (27 : Int) else 0) ≠ 0 → RP = (Rl0, (if kindN (ts.getD 4 []) = 0 then (27 : Int) else 0), ((4 : Nat) : Int)) := fun h => by
        have hh : kindN (ts.getD 4 []) = 0 := by by_cases hh : kindN (ts.getD 4 []) = 0; exact hh; rw [if_neg hh] at h; exact absurd rfl h
        rw [if_pos hh]
        exact (hRp.out.1 (hS.out.2 (by omega)).1).trans (stg_e3 (hS.out.2 (by omega)).2 hh)
      generalize (if kindN (ts.getD 4 []) = 0 then (27 : Int) else 0) = E at *
      have hN := Lib.hid hN
      have hEr := Lib.hid hEr
      clear hB hS hRWk
      generalize strOf (ts.getD 4 []) = SK at *
      go_wp2_with fail
      refine hP.mono ?_
      rintro e w5 ⟨rfl, hB5, hX5⟩
      have hB5 := Lib.hid hB5
      have hX5 := Lib.hid (hX.out.trans hX5)
      have hRW5 := hRWH.out.at hX5.out
      clear hP
      by_cases hE0 : E = 0
      · have hN2 := Lib.hid (hN.out hE0)
        clear hN hRW5 hEr
        subst hE0
        go_wp2
        go_roundw
        case rel => exact ⟨4, _, by omega, by go_num, hN2, hB5, hX5⟩
        case measure => (simp [intOf]) <;> omega
      · have hEr2 := Lib.hid (hEr.out hE0)
        have hE0' : (E != 0) = true := by simp [hE0]
        obtain ⟨xR, _, _, _, xw, _, g0, g1, g2, g3, k0, k1, k2, k3⟩ := hRW5
        clear hN hB5 hX5 hEr
        go_wp2
        refine bodyPost_ret (v := .tuple #[rlV Rl0, .int .u16 E, .int .i64 4]) (by simp [results, Tryz.results58, go_sem, rlV, Rl0, strOf, g0, g1, g2, g3]) rfl ⟨?_, ?_⟩
        · exact ret_rulep (hEr2.out.symm)
        · exact ((((But.refl (fun x => x = w.heap.size) w5).setCell rfl _).setCell rfl _).setCell rfl _ |>.setCell rfl _).ext xR (by rintro x rfl; exact Nat.le_refl _)
    obtain rfl : k = 4 := by omega
    have hF := Lib.hid ((hRp.out.1 (hS.out.2 (by omega)).1).trans (stg_ok (hS.out.2 (by omega)).2))
    obtain ⟨xR, _, _, _, xw, _, g0, g1, g2, g3, k0, k1, k2, k3⟩ := hRWk.out
    obtain ⟨s0, s1, s2, s3, _, _, _, _⟩ := hB.out
    have hm : w.heap.size ≠ BR := fun e => by have := hRWH.out.hb; omega
    clear hS hB hX hRWk
    go_wp2
    refine bodyPost_ret (v := .tuple #[rlV R, .int .u16 0, .int .i64 0]) (by simp [results, Tryz.results58, go_sem, rlV, g0, g1, g2, g3]) rfl ⟨?_, ?_⟩
    · exact ret_rulep (hF.out.symm)
    · exact ((((But.refl (fun x => x = w.heap.size) wr).setCell rfl _).setCell rfl _).setCell rfl _ |>.setCell rfl _).ext xR (by rintro x rfl; exact Nat.le_refl _)

theorem pRule (ts : List (List UInt8)) (g cp : Nat) (hne : 0 < ts.length) (hcp : ts.length ≤ cp) (hl : ∀ i, (ts.getD i []).length ≤ 1000000) (w : World) (hc : StrsAt w g ts) :
    Calls Tryz.prog 58 #[.slice (some ⟨g, 0, none⟩) ts.length cp] w fun e w' => e = .returned (.tuple #[rlV (rpar ts).1, .int .u16 (rpar ts).2.1, .int .i64 (rpar ts).2.2]) ∧ Ext w w' := by
  by_cases h1 : ts.length = 4 ∧ ts.getD 0 [] = sDefault
  · exact pRuleD ts g cp hne hcp hl h1.1 h1.2 w hc
  by_cases h2 : ts.length = 5 ∧ ts.getD 0 [] = sRule
  · exact pRuleR ts g cp hne hcp hl h2.1 h2.2 w hc
  exact pRuleN ts g cp hne hcp hl h1 h2 w hc

end Go.Proofs.YtdgcgpapcbjfhaaGreatDoor
