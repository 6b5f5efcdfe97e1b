/- Plain numbers: what the functions of the layers num, leaky, bucket and gcra compute, as functions on integers; no program in sight. -/
set_option linter.unusedVariables false
namespace Go.Proofs.Ytfabgfenelaheaa

/-- A number of 64 bits. -/
def U (a : Int) : Prop := 0 ≤ a ∧ a ≤ 18446744073709551615
theorem U.mk {a : Int} (h : 0 ≤ a) (h' : a ≤ 18446744073709551615) : U a := ⟨h, h'⟩
theorem U.lo {a : Int} (h : U a) : 0 ≤ a := h.1
theorem U.hi {a : Int} (h : U a) : a ≤ 18446744073709551615 := h.2

theorem shr_U {v : Int} (h : U v) (n : Nat) : U (v / 2 ^ n) := by
  have hp : (0 : Int) < 2 ^ n := Int.pow_pos (by omega)
  refine ⟨Int.ediv_nonneg h.1 (Int.le_of_lt hp), Int.le_trans (Int.ediv_le_self _ h.1) h.2⟩

def usub (a b : Int) : Int := a - min a b
def uadd (a b : Int) : Int := min (a + b) 18446744073709551615
theorem usub_U {a b : Int} (ha : U a) (hb : U b) : U (usub a b) := by unfold U usub at *; omega
theorem min_U {a b : Int} (ha : U a) (hb : U b) : U (min a b) := by unfold U at *; omega
theorem uadd_U {a b : Int} (ha : U a) (hb : U b) : U (uadd a b) := by unfold U uadd at *; omega

def fits (a b c : Int) : Bool := decide (a + b ≤ c)

/-- sums of two numbers of 128 bits: the carry, the lower half, the upper one, whether it goes round -/
def addC (al bl : Int) : Int := if al + bl ≤ 18446744073709551615 then 0 else 1
def addL (al bl : Int) : Int := if al + bl ≤ 18446744073709551615 then al + bl else al + bl - 18446744073709551616
def addH (ah al bh bl : Int) : Int := if ah + bh + addC al bl ≤ 18446744073709551615 then ah + bh + addC al bl else ah + bh + addC al bl - 18446744073709551616
def addR (ah al bh bl : Int) : Bool := decide (18446744073709551615 < ah + bh + addC al bl)

theorem addL_0 {al bl : Int} (h : al + bl ≤ 18446744073709551615) : addL al bl = al + bl := by unfold addL; rw [if_pos h]
theorem addL_1 {al bl : Int} (h : 18446744073709551615 < al + bl) : addL al bl = al + bl - 18446744073709551616 := by unfold addL; rw [if_neg (Int.not_le.2 h)]
theorem addH_00 {ah al bh bl : Int} (h : al + bl ≤ 18446744073709551615) (h' : ah + bh ≤ 18446744073709551615) : addH ah al bh bl = ah + bh := by unfold addH addC; rw [if_pos h, if_pos (by omega)]; omega
theorem addH_01 {ah al bh bl : Int} (h : al + bl ≤ 18446744073709551615) (h' : 18446744073709551615 < ah + bh) : addH ah al bh bl = ah + bh - 18446744073709551616 := by unfold addH addC; rw [if_pos h, if_neg (by omega)]; omega
theorem addH_10 {ah al bh bl : Int} (h : 18446744073709551615 < al + bl) (h' : ah + bh ≤ 18446744073709551614) : addH ah al bh bl = ah + bh + 1 := by unfold addH addC; rw [if_neg (Int.not_le.2 h), if_pos (by omega)]
theorem addH_11 {ah al bh bl : Int} (h : 18446744073709551615 < al + bl) (h' : 18446744073709551614 < ah + bh) : addH ah al bh bl = ah + bh + 1 - 18446744073709551616 := by unfold addH addC; rw [if_neg (Int.not_le.2 h), if_neg (by omega)]
theorem addH_11' {ah al bh bl : Int} (h : 18446744073709551615 < al + bl) (h' : 18446744073709551614 < ah + bh) : addH ah al bh bl = ah + bh - 18446744073709551616 + 1 := by rw [addH_11 h h']; omega
theorem addR_00 {ah al bh bl : Int} (h : al + bl ≤ 18446744073709551615) (h' : ah + bh ≤ 18446744073709551615) : addR ah al bh bl = false := by unfold addR addC; rw [if_pos h]; simp; omega
theorem addR_01 {ah al bh bl : Int} (h : al + bl ≤ 18446744073709551615) (h' : 18446744073709551615 < ah + bh) : addR ah al bh bl = true := by unfold addR addC; rw [if_pos h]; simp; omega
theorem addR_10 {ah al bh bl : Int} (h : 18446744073709551615 < al + bl) (h' : ah + bh ≤ 18446744073709551614) : addR ah al bh bl = false := by unfold addR addC; rw [if_neg (Int.not_le.2 h)]; simp; omega
theorem addR_11 {ah al bh bl : Int} (h : 18446744073709551615 < al + bl) (h' : 18446744073709551614 < ah + bh) : addR ah al bh bl = true := by unfold addR addC; rw [if_neg (Int.not_le.2 h)]; simp; omega
theorem addC_01 (al bl : Int) : 0 ≤ addC al bl ∧ addC al bl ≤ 1 := by unfold addC; split <;> omega
theorem addL_U {al bl : Int} (ha : U al) (hb : U bl) : U (addL al bl) := by unfold U addL at *; split <;> omega
theorem addH_U {ah al bh bl : Int} (ha : U ah) (hb : U bh) : U (addH ah al bh bl) := by have := addC_01 al bl; unfold U addH at *; split <;> omega
def less (ah al bh bl : Int) : Bool := if ah = bh then decide (al < bl) else decide (ah < bh)
theorem less_fits {a b c : Int} (ha : U a) (hb : U b) (hc : U c) : (!less 0 c (addH 0 a 0 b) (addL a b)) = fits a b c := by
  unfold U at *
  by_cases h : a + b ≤ 18446744073709551615
  · rw [addH_00 h (by omega), addL_0 h]; unfold less fits; rw [Bool.eq_iff_iff]; simp
  · rw [addH_10 (by omega) (by omega), addL_1 (by omega)]; unfold less fits; rw [Bool.eq_iff_iff]; simp; omega

/-- the sum of all, or the end -/
def usum (l : List Int) : Int := min l.sum 18446744073709551615
theorem usum_hi {l : List Int} (h : 18446744073709551615 < l.sum) : usum l = 18446744073709551615 := by unfold usum; omega
theorem usum_lo {l : List Int} (h : l.sum ≤ 18446744073709551615) : usum l = l.sum := by unfold usum; omega
theorem sum_take_succ (l : List Int) (k : Nat) (h : k < l.length) : (l.take (k + 1)).sum = (l.take k).sum + l.getD k 0 := by
  rw [List.take_succ_eq_append_getElem h, List.sum_append]; simp [List.getD, h]
theorem sum_take_le (l : List Int) (k : Nat) (h : ∀ i, i < l.length → U (l.getD i 0)) : (l.take k).sum ≤ l.sum := by
  induction l generalizing k with
  | nil => simp
  | cons x l ih =>
    cases k with
    | zero =>
      have h1 := ih 0 (fun i hi => by have := h (i + 1) (by simpa using hi); simpa using this)
      have h2 := (h 0 (by simp)).lo
      simp at h1 h2 ⊢; omega
    | succ k =>
      have h1 := ih k (fun i hi => by have := h (i + 1) (by simpa using hi); simpa using this)
      simp; omega

theorem usum_two (x y : Int) : usum [x, y] = uadd x y := by unfold usum uadd; simp

/-- tokens of a bucket -/
def tok (A B now cap : Int) : Int := min (uadd A (usub now B)) cap
theorem tok_U {A B now cap : Int} (hA : U A) (hB : U B) (hn : U now) (hc : U cap) : U (tok A B now cap) := by
  have := uadd_U hA (usub_U hn hB); unfold U tok at *; omega
theorem tok_le (A B now cap : Int) : tok A B now cap ≤ cap := by unfold tok; omega
def bfill (A B now cap : Int) : Int := cap - tok A B now cap
theorem bfill_U {A B now cap : Int} (hA : U A) (hB : U B) (hn : U now) (hc : U cap) : U (bfill A B now cap) := by
  have := tok_U hA hB hn hc; have := tok_le A B now cap; unfold U bfill at *; omega
theorem tok_nn {A B now cap : Int} (hA : U A) (hB : U B) (hn : U now) (hc : U cap) : 0 ≤ tok A B now cap := (tok_U hA hB hn hc).lo
theorem bfill_le {A B now cap : Int} (hA : U A) (hB : U B) (hn : U now) (hc : U cap) : bfill A B now cap ≤ cap := by have := tok_nn hA hB hn hc; unfold bfill; omega
def bok (A B now cap w : Int) : Bool := decide (w ≤ tok A B now cap)
def bK (k A B now cap w : Int) : Int := if w ≤ tok A B now cap then 2 else k
def bA (A B now cap w : Int) : Int := if w ≤ tok A B now cap then tok A B now cap - w else A
def bB (A B now cap w : Int) : Int := if w ≤ tok A B now cap then now else B

end Go.Proofs.Ytfabgfenelaheaa
