/- Plain numbers: the three kernels, one by another; no program in sight. -/
set_option linter.unusedVariables false
set_option linter.unusedSimpArgs false

/- Plain numbers: what the functions of the layers num, leaky, bucket and gcra compute, as functions on integers; no program in sight. -/
namespace Go.Proofs.YtdgcgpapcbjfhaaGreatDoor

/-- A number of 64 bits. -/
def U (a : Int) : Prop := 0 ≤ a ∧ a ≤ 18446744073709551615
theorem U.mk {a : Int} (h : 0 ≤ a) (h' : a ≤ 18446744073709551615) : U a := ⟨h, h'⟩
theorem U.lo {a : Int} (h : U a) : 0 ≤ a := h.1
theorem U.hi {a : Int} (h : U a) : a ≤ 18446744073709551615 := h.2

theorem shr_U {v : Int} (h : U v) (n : Nat) : U (v / 2 ^ n) := by
  have hp : (0 : Int) < 2 ^ n := Int.pow_pos (by omega)
  refine ⟨Int.ediv_nonneg h.1 (Int.le_of_lt hp), Int.le_trans (Int.ediv_le_self _ h.1) h.2⟩

def usub (a b : Int) : Int := a - min a b
def uadd (a b : Int) : Int := min (a + b) 18446744073709551615
theorem usub_U {a b : Int} (ha : U a) (hb : U b) : U (usub a b) := by unfold U usub at *; omega
theorem min_U {a b : Int} (ha : U a) (hb : U b) : U (min a b) := by unfold U at *; omega
theorem uadd_U {a b : Int} (ha : U a) (hb : U b) : U (uadd a b) := by unfold U uadd at *; omega

def fits (a b c : Int) : Bool := decide (a + b ≤ c)

/-- sums of two numbers of 128 bits: the carry, the lower half, the upper one, whether it goes round -/
def addC (al bl : Int) : Int := if al + bl ≤ 18446744073709551615 then 0 else 1
def addL (al bl : Int) : Int := if al + bl ≤ 18446744073709551615 then al + bl else al + bl - 18446744073709551616
def addH (ah al bh bl : Int) : Int := if ah + bh + addC al bl ≤ 18446744073709551615 then ah + bh + addC al bl else ah + bh + addC al bl - 18446744073709551616
def addR (ah al bh bl : Int) : Bool := decide (18446744073709551615 < ah + bh + addC al bl)

theorem addL_0 {al bl : Int} (h : al + bl ≤ 18446744073709551615) : addL al bl = al + bl := by unfold addL; rw [if_pos h]
theorem addL_1 {al bl : Int} (h : 18446744073709551615 < al + bl) : addL al bl = al + bl - 18446744073709551616 := by unfold addL; rw [if_neg (Int.not_le.2 h)]
theorem addH_00 {ah al bh bl : Int} (h : al + bl ≤ 18446744073709551615) (h' : ah + bh ≤ 18446744073709551615) : addH ah al bh bl = ah + bh := by unfold addH addC; rw [if_pos h, if_pos (by omega)]; omega
theorem addH_01 {ah al bh bl : Int} (h : al + bl ≤ 18446744073709551615) (h' : 18446744073709551615 < ah + bh) : addH ah al bh bl = ah + bh - 18446744073709551616 := by unfold addH addC; rw [if_pos h, if_neg (by omega)]; omega
theorem addH_10 {ah al bh bl : Int} (h : 18446744073709551615 < al + bl) (h' : ah + bh ≤ 18446744073709551614) : addH ah al bh bl = ah + bh + 1 := by unfold addH addC; rw [if_neg (Int.not_le.2 h), if_pos (by omega)]
theorem addH_11 {ah al bh bl : Int} (h : 18446744073709551615 < al + bl) (h' : 18446744073709551614 < ah + bh) : addH ah al bh bl = ah + bh + 1 - 18446744073709551616 := by unfold addH addC; rw [if_neg (Int.not_le.2 h), if_neg (by omega)]
theorem addH_11' {ah al bh bl : Int} (h : 18446744073709551615 < al + bl) (h' : 18446744073709551614 < ah + bh) : addH ah al bh bl = ah + bh - 18446744073709551616 + 1 := by rw [addH_11 h h']; omega
theorem addR_00 {ah al bh bl : Int} (h : al + bl ≤ 18446744073709551615) (h' : ah + bh ≤ 18446744073709551615) : addR ah al bh bl = false := by unfold addR addC; rw [if_pos h]; simp; omega
theorem addR_01 {ah al bh bl : Int} (h : al + bl ≤ 18446744073709551615) (h' : 18446744073709551615 < ah + bh) : addR ah al bh bl = true := by unfold addR addC; rw [if_pos h]; simp; omega
theorem addR_10 {ah al bh bl : Int} (h : 18446744073709551615 < al + bl) (h' : ah + bh ≤ 18446744073709551614) : addR ah al bh bl = false := by unfold addR addC; rw [if_neg (Int.not_le.2 h)]; simp; omega
theorem addR_11 {ah al bh bl : Int} (h : 18446744073709551615 < al + bl) (h' : 18446744073709551614 < ah + bh) : addR ah al bh bl = true := by unfold addR addC; rw [if_neg (Int.not_le.2 h)]; simp; omega
theorem addC_01 (al bl : Int) : 0 ≤ addC al bl ∧ addC al bl ≤ 1 := by unfold addC; split <;> omega
theorem addL_U {al bl : Int} (ha : U al) (hb : U bl) : U (addL al bl) := by unfold U addL at *; split <;> omega
theorem addH_U {ah al bh bl : Int} (ha : U ah) (hb : U bh) : U (addH ah al bh bl) := by have := addC_01 al bl; unfold U addH at *; split <;> omega
def less (ah al bh bl : Int) : Bool := if ah = bh then decide (al < bl) else decide (ah < bh)
theorem less_fits {a b c : Int} (ha : U a) (hb : U b) (hc : U c) : (!less 0 c (addH 0 a 0 b) (addL a b)) = fits a b c := by
  unfold U at *
  by_cases h : a + b ≤ 18446744073709551615
  · rw [addH_00 h (by omega), addL_0 h]; unfold less fits; rw [Bool.eq_iff_iff]; simp
  · rw [addH_10 (by omega) (by omega), addL_1 (by omega)]; unfold less fits; rw [Bool.eq_iff_iff]; simp; omega

/-- the sum of all, or the end -/
def usum (l : List Int) : Int := min l.sum 18446744073709551615
theorem usum_hi {l : List Int} (h : 18446744073709551615 < l.sum) : usum l = 18446744073709551615 := by unfold usum; omega
theorem usum_lo {l : List Int} (h : l.sum ≤ 18446744073709551615) : usum l = l.sum := by unfold usum; omega
theorem sum_take_succ (l : List Int) (k : Nat) (h : k < l.length) : (l.take (k + 1)).sum = (l.take k).sum + l.getD k 0 := by
  rw [List.take_succ_eq_append_getElem h, List.sum_append]; simp [List.getD, h]
theorem sum_take_le (l : List Int) (k : Nat) (h : ∀ i, i < l.length → U (l.getD i 0)) : (l.take k).sum ≤ l.sum := by
  induction l generalizing k with
  | nil => simp
  | cons x l ih =>
    cases k with
    | zero =>
      have h1 := ih 0 (fun i hi => by have := h (i + 1) (by simpa using hi); simpa using this)
      have h2 := (h 0 (by simp)).lo
      simp at h1 h2 ⊢; omega
    | succ k =>
      have h1 := ih k (fun i hi => by have := h (i + 1) (by simpa using hi); simpa using this)
      simp; omega

theorem usum_two (x y : Int) : usum [x, y] = uadd x y := by unfold usum uadd; simp

/-- tokens of a bucket -/
def tok (A B now cap : Int) : Int := min (uadd A (usub now B)) cap
theorem tok_U {A B now cap : Int} (hA : U A) (hB : U B) (hn : U now) (hc : U cap) : U (tok A B now cap) := by
  have := uadd_U hA (usub_U hn hB); unfold U tok at *; omega
theorem tok_le (A B now cap : Int) : tok A B now cap ≤ cap := by unfold tok; omega
def bfill (A B now cap : Int) : Int := cap - tok A B now cap
theorem bfill_U {A B now cap : Int} (hA : U A) (hB : U B) (hn : U now) (hc : U cap) : U (bfill A B now cap) := by
  have := tok_U hA hB hn hc; have := tok_le A B now cap; unfold U bfill at *; omega
theorem tok_nn {A B now cap : Int} (hA : U A) (hB : U B) (hn : U now) (hc : U cap) : 0 ≤ tok A B now cap := (tok_U hA hB hn hc).lo
theorem bfill_le {A B now cap : Int} (hA : U A) (hB : U B) (hn : U now) (hc : U cap) : bfill A B now cap ≤ cap := by have := tok_nn hA hB hn hc; unfold bfill; omega
def bok (A B now cap w : Int) : Bool := decide (w ≤ tok A B now cap)
def bK (k A B now cap w : Int) : Int := if w ≤ tok A B now cap then 2 else k
def bA (A B now cap w : Int) : Int := if w ≤ tok A B now cap then tok A B now cap - w else A
def bB (A B now cap w : Int) : Int := if w ≤ tok A B now cap then now else B

end Go.Proofs.YtdgcgpapcbjfhaaGreatDoor

/- Plain numbers: a meter that leaks, a time of arrival; no program in sight. -/
namespace Go.Proofs.YtdgcgpapcbjfhaaGreatDoor

/-- a meter that leaks -/
def lfill (A B now : Int) : Int := usub A (usub now B)
theorem lfill_U {A B now : Int} (hA : U A) (hB : U B) (hn : U now) : U (lfill A B now) := usub_U hA (usub_U hn hB)
def lK (k A B now cap w : Int) : Int := if lfill A B now + w ≤ cap then 3 else k
def lA (A B now cap w : Int) : Int := if lfill A B now + w ≤ cap then lfill A B now + w else A
def lB (A B now cap w : Int) : Int := if lfill A B now + w ≤ cap then now else B
def lok (A B now cap w : Int) : Bool := fits (lfill A B now) w cap

/-- a time of arrival -/
def gK (k A B now cap w : Int) : Int := if max A now - now + w ≤ cap then 1 else k
def gA (A B now cap w : Int) : Int := if max A now - now + w ≤ cap then uadd (max A now) w else A
def gB (A B now cap w : Int) : Int := if max A now - now + w ≤ cap then 0 else B
def gok (A B now cap w : Int) : Bool := fits (max A now - now) w cap

def lfil (A B now cap : Int) : Int := lfill A B now
def gfil (A B now cap : Int) : Int := usub A now

theorem l_yes {k A B now cap v : Int} (h : lfill A B now + v ≤ cap) : lK k A B now cap v = 3 ∧ lA A B now cap v = lfill A B now + v ∧ lB A B now cap v = now ∧ lok A B now cap v = true := by
  unfold lK lA lB lok fits; simp [h]
theorem l_no {k A B now cap v : Int} (h : ¬ lfill A B now + v ≤ cap) : lK k A B now cap v = k ∧ lA A B now cap v = A ∧ lB A B now cap v = B ∧ lok A B now cap v = false := by
  unfold lK lA lB lok fits; simp [h]
theorem g_yes {k A B now cap v : Int} (h : max A now - now + v ≤ cap) : gK k A B now cap v = 1 ∧ gA A B now cap v = uadd (max A now) v ∧ gB A B now cap v = 0 ∧ gok A B now cap v = true := by
  unfold gK gA gB gok fits; simp [h]
theorem g_no {k A B now cap v : Int} (h : ¬ max A now - now + v ≤ cap) : gK k A B now cap v = k ∧ gA A B now cap v = A ∧ gB A B now cap v = B ∧ gok A B now cap v = false := by
  unfold gK gA gB gok fits; simp [h]

theorem l_case (A B now cap v : Int) : (∃ K' A' B', ∀ k, lK k A B now cap v = K' ∧ lA A B now cap v = A' ∧ lB A B now cap v = B' ∧ lok A B now cap v = true) ∨
    (∀ k, lK k A B now cap v = k ∧ lA A B now cap v = A ∧ lB A B now cap v = B ∧ lok A B now cap v = false) := by
  by_cases h : lfill A B now + v ≤ cap
  · exact Or.inl ⟨_, _, _, fun k => l_yes h⟩
  · exact Or.inr fun k => l_no h

end Go.Proofs.YtdgcgpapcbjfhaaGreatDoor

/- Plain numbers: the three kernels, one by another; no program in sight. -/
namespace Go.Proofs.YtdgcgpapcbjfhaaGreatDoor

/-- how full a state of kind k is -/
def fil (k A B now cap : Int) : Int := if k = 1 then gfil A B now cap else if k = 2 then bfill A B now cap else if k = 3 then lfil A B now cap else 0
def dK (k A B now cap v : Int) : Int := if k = 1 then gK 1 A B now cap v else if k = 2 then bK 2 A B now cap v else if k = 3 then lK 3 A B now cap v else k
def dA (k A B now cap v : Int) : Int := if k = 1 then gA A B now cap v else if k = 2 then bA A B now cap v else if k = 3 then lA A B now cap v else A
def dB (k A B now cap v : Int) : Int := if k = 1 then gB A B now cap v else if k = 2 then bB A B now cap v else if k = 3 then lB A B now cap v else B
def dok (k A B now cap v : Int) : Bool := if k = 1 then gok A B now cap v else if k = 2 then bok A B now cap v else if k = 3 then lok A B now cap v else false
def oK (k : Int) : Int := if k = 1 then 1 else if k = 2 then 2 else if k = 3 then 3 else 0
def oA (k now cap fill : Int) : Int := if k = 1 then uadd now fill else if k = 2 then usub cap fill else if k = 3 then fill else 0
def oB (k now : Int) : Int := if k = 1 then 0 else if k = 2 then now else if k = 3 then now else 0
def oE (k : Int) : Int := if k = 1 then 0 else if k = 2 then 0 else if k = 3 then 0 else 27
def isK (k : Int) : Bool := if k = 1 then true else if k = 2 then true else if k = 3 then true else false
def until' (k A B now cap : Int) : Int := if fil k A B now cap > 0 then uadd now (fil k A B now cap) else 0
/-- a state that goes over -/
def mK (k to : Int) : Int := if isK k = true then oK to else 0
def mA (k A B to now cap : Int) : Int := if isK k = true then oA to now cap (fil k A B now cap) else 0
def mB (k to now : Int) : Int := if isK k = true then oB to now else 0
def mE (k to : Int) : Int := if isK k = true then oE to else 27
/-- waits -/
def wOk (k A B now cap v : Int) : Bool := if v > cap then false else !fits (fil k A B now cap) v cap
def wD (k A B now cap v : Int) : Int := if v > cap then 0 else if fits (fil k A B now cap) v cap = true then 0 else fil k A B now cap - (cap - v)

section
variable (A B now cap v fill : Int)
theorem fil_1 : fil 1 A B now cap = gfil A B now cap := rfl
theorem fil_2 : fil 2 A B now cap = bfill A B now cap := rfl
theorem fil_3 : fil 3 A B now cap = lfil A B now cap := rfl
theorem dK_1 : dK 1 A B now cap v = gK 1 A B now cap v := rfl
theorem dK_2 : dK 2 A B now cap v = bK 2 A B now cap v := rfl
theorem dK_3 : dK 3 A B now cap v = lK 3 A B now cap v := rfl
theorem dA_1 : dA 1 A B now cap v = gA A B now cap v := rfl
theorem dA_2 : dA 2 A B now cap v = bA A B now cap v := rfl
theorem dA_3 : dA 3 A B now cap v = lA A B now cap v := rfl
theorem dB_1 : dB 1 A B now cap v = gB A B now cap v := rfl
theorem dB_2 : dB 2 A B now cap v = bB A B now cap v := rfl
theorem dB_3 : dB 3 A B now cap v = lB A B now cap v := rfl
theorem dok_1 : dok 1 A B now cap v = gok A B now cap v := rfl
theorem dok_2 : dok 2 A B now cap v = bok A B now cap v := rfl
theorem dok_3 : dok 3 A B now cap v = lok A B now cap v := rfl
theorem oA_1 : oA 1 now cap fill = uadd now fill := rfl
theorem oA_2 : oA 2 now cap fill = usub cap fill := rfl
theorem oA_3 : oA 3 now cap fill = fill := rfl
variable {k : Int} (h1 : k ≠ 1) (h2 : k ≠ 2) (h3 : k ≠ 3)
include h1 h2 h3
theorem fil_0 : fil k A B now cap = 0 := by unfold fil; rw [if_neg h1, if_neg h2, if_neg h3]
theorem dK_0 : dK k A B now cap v = k := by unfold dK; rw [if_neg h1, if_neg h2, if_neg h3]
theorem dA_0 : dA k A B now cap v = A := by unfold dA; rw [if_neg h1, if_neg h2, if_neg h3]
theorem dB_0 : dB k A B now cap v = B := by unfold dB; rw [if_neg h1, if_neg h2, if_neg h3]
theorem dok_0 : dok k A B now cap v = false := by unfold dok; rw [if_neg h1, if_neg h2, if_neg h3]
theorem oK_0 : oK k = 0 := by unfold oK; rw [if_neg h1, if_neg h2, if_neg h3]
theorem oA_0 : oA k now cap fill = 0 := by unfold oA; rw [if_neg h1, if_neg h2, if_neg h3]
theorem oB_0 : oB k now = 0 := by unfold oB; rw [if_neg h1, if_neg h2, if_neg h3]
theorem oE_0 : oE k = 27 := by unfold oE; rw [if_neg h1, if_neg h2, if_neg h3]
theorem isK_0 : isK k = false := by unfold isK; rw [if_neg h1, if_neg h2, if_neg h3]
end

theorem isK_iff {k : Int} : isK k = true ↔ k = 1 ∨ k = 2 ∨ k = 3 := by
  unfold isK; repeat' split
  all_goals simp [*]
theorem kcase (k : Int) : k = 1 ∨ k = 2 ∨ k = 3 ∨ (k ≠ 1 ∧ k ≠ 2 ∧ k ≠ 3) := by omega

theorem fil_U {A B now cap : Int} (k : Int) (hA : U A) (hB : U B) (hn : U now) (hc : U cap) : U (fil k A B now cap) := by
  rcases kcase k with rfl | rfl | rfl | ⟨h1, h2, h3⟩
  · exact usub_U hA hn
  · exact bfill_U hA hB hn hc
  · exact lfill_U hA hB hn
  · rw [fil_0 _ _ _ _ h1 h2 h3]; unfold U; omega
theorem oA_U {now cap fill : Int} (k : Int) (hn : U now) (hc : U cap) (hf : U fill) : U (oA k now cap fill) := by
  rcases kcase k with rfl | rfl | rfl | ⟨h1, h2, h3⟩
  · exact uadd_U hn hf
  · exact usub_U hc hf
  · exact hf
  · rw [oA_0 _ _ _ h1 h2 h3]; unfold U; omega
theorem oB_U {now : Int} (k : Int) (hn : U now) : U (oB k now) := by
  unfold oB U at *; repeat' split
  all_goals omega
theorem dA_U {A B now cap v : Int} (k : Int) (hA : U A) (hB : U B) (hn : U now) (hc : U cap) (hv : U v) : U (dA k A B now cap v) := by
  rcases kcase k with rfl | rfl | rfl | ⟨h1, h2, h3⟩
  · rw [dA_1]; unfold gA; split
    · exact uadd_U (by unfold U at *; omega) hv
    · exact hA
  · rw [dA_2]; have := tok_U hA hB hn hc; unfold bA; split <;> first | exact hA | (unfold U at *; omega)
  · rw [dA_3]; have := lfill_U hA hB hn; unfold lA; split <;> first | exact hA | (unfold U at *; omega)
  · rw [dA_0 _ _ _ _ _ h1 h2 h3]; exact hA
theorem dB_U {A B now cap v : Int} (k : Int) (hB : U B) (hn : U now) : U (dB k A B now cap v) := by
  rcases kcase k with rfl | rfl | rfl | ⟨h1, h2, h3⟩
  · rw [dB_1]; unfold gB; split <;> first | exact hB | (unfold U; omega)
  · rw [dB_2]; unfold bB; split <;> assumption
  · rw [dB_3]; unfold lB; split <;> assumption
  · rw [dB_0 _ _ _ _ _ h1 h2 h3]; exact hB

end Go.Proofs.YtdgcgpapcbjfhaaGreatDoor
