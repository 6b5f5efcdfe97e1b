/- Plain numbers: a meter that leaks, a time of arrival; no program in sight. -/
import Derived.Test.YtfabgfenelaheaaSpec
set_option linter.unusedVariables false
namespace Go.Proofs.Ytfabgfenelaheaa

/-- a meter that leaks -/
def lfill (A B now : Int) : Int := usub A (usub now B)
theorem lfill_U {A B now : Int} (hA : U A) (hB : U B) (hn : U now) : U (lfill A B now) := usub_U hA (usub_U hn hB)
def lK (k A B now cap w : Int) : Int := if lfill A B now + w ≤ cap then 3 else k
def lA (A B now cap w : Int) : Int := if lfill A B now + w ≤ cap then lfill A B now + w else A
def lB (A B now cap w : Int) : Int := if lfill A B now + w ≤ cap then now else B
def lok (A B now cap w : Int) : Bool := fits (lfill A B now) w cap

/-- a time of arrival -/
def gK (k A B now cap w : Int) : Int := if max A now - now + w ≤ cap then 1 else k
def gA (A B now cap w : Int) : Int := if max A now - now + w ≤ cap then uadd (max A now) w else A
def gB (A B now cap w : Int) : Int := if max A now - now + w ≤ cap then 0 else B
def gok (A B now cap w : Int) : Bool := fits (max A now - now) w cap

def lfil (A B now cap : Int) : Int := lfill A B now
def gfil (A B now cap : Int) : Int := usub A now

theorem l_yes {k A B now cap v : Int} (h : lfill A B now + v ≤ cap) : lK k A B now cap v = 3 ∧ lA A B now cap v = lfill A B now + v ∧ lB A B now cap v = now ∧ lok A B now cap v = true := by
  unfold lK lA lB lok fits; simp [h]
theorem l_no {k A B now cap v : Int} (h : ¬ lfill A B now + v ≤ cap) : lK k A B now cap v = k ∧ lA A B now cap v = A ∧ lB A B now cap v = B ∧ lok A B now cap v = false := by
  unfold lK lA lB lok fits; simp [h]
theorem g_yes {k A B now cap v : Int} (h : max A now - now + v ≤ cap) : gK k A B now cap v = 1 ∧ gA A B now cap v = uadd (max A now) v ∧ gB A B now cap v = 0 ∧ gok A B now cap v = true := by
  unfold gK gA gB gok fits; simp [h]
theorem g_no {k A B now cap v : Int} (h : ¬ max A now - now + v ≤ cap) : gK k A B now cap v = k ∧ gA A B now cap v = A ∧ gB A B now cap v = B ∧ gok A B now cap v = false := by
  unfold gK gA gB gok fits; simp [h]

theorem l_case (A B now cap v : Int) : (∃ K' A' B', ∀ k, lK k A B now cap v = K' ∧ lA A B now cap v = A' ∧ lB A B now cap v = B' ∧ lok A B now cap v = true) ∨
    (∀ k, lK k A B now cap v = k ∧ lA A B now cap v = A ∧ lB A B now cap v = B ∧ lok A B now cap v = false) := by
  by_cases h : lfill A B now + v ≤ cap
  · exact Or.inl ⟨_, _, _, fun k => l_yes h⟩
  · exact Or.inr fun k => l_no h

end Go.Proofs.Ytfabgfenelaheaa
