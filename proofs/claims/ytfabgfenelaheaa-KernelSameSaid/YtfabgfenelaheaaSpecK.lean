/- Plain numbers: the three kernels, one by another; no program in sight. -/
import Derived.Test.YtfabgfenelaheaaSpecM
set_option linter.unusedVariables false
namespace Go.Proofs.Ytfabgfenelaheaa

/-- how full a state of kind k is -/
def fil (k A B now cap : Int) : Int := if k = 1 then gfil A B now cap else if k = 2 then bfill A B now cap else if k = 3 then lfil A B now cap else 0
def dK (k A B now cap v : Int) : Int := if k = 1 then gK 1 A B now cap v else if k = 2 then bK 2 A B now cap v else if k = 3 then lK 3 A B now cap v else k
def dA (k A B now cap v : Int) : Int := if k = 1 then gA A B now cap v else if k = 2 then bA A B now cap v else if k = 3 then lA A B now cap v else A
def dB (k A B now cap v : Int) : Int := if k = 1 then gB A B now cap v else if k = 2 then bB A B now cap v else if k = 3 then lB A B now cap v else B
def dok (k A B now cap v : Int) : Bool := if k = 1 then gok A B now cap v else if k = 2 then bok A B now cap v else if k = 3 then lok A B now cap v else false
def oK (k : Int) : Int := if k = 1 then 1 else if k = 2 then 2 else if k = 3 then 3 else 0
def oA (k now cap fill : Int) : Int := if k = 1 then uadd now fill else if k = 2 then usub cap fill else if k = 3 then fill else 0
def oB (k now : Int) : Int := if k = 1 then 0 else if k = 2 then now else if k = 3 then now else 0
def oE (k : Int) : Int := if k = 1 then 0 else if k = 2 then 0 else if k = 3 then 0 else 27
def isK (k : Int) : Bool := if k = 1 then true else if k = 2 then true else if k = 3 then true else false
def until' (k A B now cap : Int) : Int := if fil k A B now cap > 0 then uadd now (fil k A B now cap) else 0
/-- a state that goes over -/
def mK (k to : Int) : Int := if isK k = true then oK to else 0
def mA (k A B to now cap : Int) : Int := if isK k = true then oA to now cap (fil k A B now cap) else 0
def mB (k to now : Int) : Int := if isK k = true then oB to now else 0
def mE (k to : Int) : Int := if isK k = true then oE to else 27
/-- waits -/
def wOk (k A B now cap v : Int) : Bool := if v > cap then false else !fits (fil k A B now cap) v cap
def wD (k A B now cap v : Int) : Int := if v > cap then 0 else if fits (fil k A B now cap) v cap = true then 0 else fil k A B now cap - (cap - v)

section
variable (A B now cap v fill : Int)
theorem fil_1 : fil 1 A B now cap = gfil A B now cap := rfl
theorem fil_2 : fil 2 A B now cap = bfill A B now cap := rfl
theorem fil_3 : fil 3 A B now cap = lfil A B now cap := rfl
theorem dK_1 : dK 1 A B now cap v = gK 1 A B now cap v := rfl
theorem dK_2 : dK 2 A B now cap v = bK 2 A B now cap v := rfl
theorem dK_3 : dK 3 A B now cap v = lK 3 A B now cap v := rfl
theorem dA_1 : dA 1 A B now cap v = gA A B now cap v := rfl
theorem dA_2 : dA 2 A B now cap v = bA A B now cap v := rfl
theorem dA_3 : dA 3 A B now cap v = lA A B now cap v := rfl
theorem dB_1 : dB 1 A B now cap v = gB A B now cap v := rfl
theorem dB_2 : dB 2 A B now cap v = bB A B now cap v := rfl
theorem dB_3 : dB 3 A B now cap v = lB A B now cap v := rfl
theorem dok_1 : dok 1 A B now cap v = gok A B now cap v := rfl
theorem dok_2 : dok 2 A B now cap v = bok A B now cap v := rfl
theorem dok_3 : dok 3 A B now cap v = lok A B now cap v := rfl
theorem oA_1 : oA 1 now cap fill = uadd now fill := rfl
theorem oA_2 : oA 2 now cap fill = usub cap fill := rfl
theorem oA_3 : oA 3 now cap fill = fill := rfl
variable {k : Int} (h1 : k ≠ 1) (h2 : k ≠ 2) (h3 : k ≠ 3)
include h1 h2 h3
theorem fil_0 : fil k A B now cap = 0 := by unfold fil; rw [if_neg h1, if_neg h2, if_neg h3]
theorem dK_0 : dK k A B now cap v = k := by unfold dK; rw [if_neg h1, if_neg h2, if_neg h3]
theorem dA_0 : dA k A B now cap v = A := by unfold dA; rw [if_neg h1, if_neg h2, if_neg h3]
theorem dB_0 : dB k A B now cap v = B := by unfold dB; rw [if_neg h1, if_neg h2, if_neg h3]
theorem dok_0 : dok k A B now cap v = false := by unfold dok; rw [if_neg h1, if_neg h2, if_neg h3]
theorem oK_0 : oK k = 0 := by unfold oK; rw [if_neg h1, if_neg h2, if_neg h3]
theorem oA_0 : oA k now cap fill = 0 := by unfold oA; rw [if_neg h1, if_neg h2, if_neg h3]
theorem oB_0 : oB k now = 0 := by unfold oB; rw [if_neg h1, if_neg h2, if_neg h3]
theorem oE_0 : oE k = 27 := by unfold oE; rw [if_neg h1, if_neg h2, if_neg h3]
theorem isK_0 : isK k = false := by unfold isK; rw [if_neg h1, if_neg h2, if_neg h3]
end

theorem isK_iff {k : Int} : isK k = true ↔ k = 1 ∨ k = 2 ∨ k = 3 := by
  unfold isK; repeat' split
  all_goals simp [*]
theorem kcase (k : Int) : k = 1 ∨ k = 2 ∨ k = 3 ∨ (k ≠ 1 ∧ k ≠ 2 ∧ k ≠ 3) := by omega

theorem fil_U {A B now cap : Int} (k : Int) (hA : U A) (hB : U B) (hn : U now) (hc : U cap) : U (fil k A B now cap) := by
  rcases kcase k with rfl | rfl | rfl | ⟨h1, h2, h3⟩
  · exact usub_U hA hn
  · exact bfill_U hA hB hn hc
  · exact lfill_U hA hB hn
  · rw [fil_0 _ _ _ _ h1 h2 h3]; unfold U; omega
theorem oA_U {now cap fill : Int} (k : Int) (hn : U now) (hc : U cap) (hf : U fill) : U (oA k now cap fill) := by
  rcases kcase k with rfl | rfl | rfl | ⟨h1, h2, h3⟩
  · exact uadd_U hn hf
  · exact usub_U hc hf
  · exact hf
  · rw [oA_0 _ _ _ h1 h2 h3]; unfold U; omega
theorem oB_U {now : Int} (k : Int) (hn : U now) : U (oB k now) := by
  unfold oB U at *; repeat' split
  all_goals omega
theorem dA_U {A B now cap v : Int} (k : Int) (hA : U A) (hB : U B) (hn : U now) (hc : U cap) (hv : U v) : U (dA k A B now cap v) := by
  rcases kcase k with rfl | rfl | rfl | ⟨h1, h2, h3⟩
  · rw [dA_1]; unfold gA; split
    · exact uadd_U (by unfold U at *; omega) hv
    · exact hA
  · rw [dA_2]; have := tok_U hA hB hn hc; unfold bA; split <;> first | exact hA | (unfold U at *; omega)
  · rw [dA_3]; have := lfill_U hA hB hn; unfold lA; split <;> first | exact hA | (unfold U at *; omega)
  · rw [dA_0 _ _ _ _ _ h1 h2 h3]; exact hA
theorem dB_U {A B now cap v : Int} (k : Int) (hB : U B) (hn : U now) : U (dB k A B now cap v) := by
  rcases kcase k with rfl | rfl | rfl | ⟨h1, h2, h3⟩
  · rw [dB_1]; unfold gB; split <;> first | exact hB | (unfold U; omega)
  · rw [dB_2]; unfold bB; split <;> assumption
  · rw [dB_3]; unfold lB; split <;> assumption
  · rw [dB_0 _ _ _ _ _ h1 h2 h3]; exact hB

end Go.Proofs.Ytfabgfenelaheaa
