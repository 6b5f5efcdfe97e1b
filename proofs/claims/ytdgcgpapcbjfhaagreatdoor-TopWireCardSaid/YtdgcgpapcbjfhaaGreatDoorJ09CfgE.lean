/- The errors of a text of rules, and how many rules there are. -/
import Derived.Test.YtdgcgpapcbjfhaaGreatDoorJ08Srt
set_option linter.unusedVariables false
set_option linter.unusedSimpArgs false

/- What a policy that is read has. -/
namespace Go.Proofs.YtdgcgpapcbjfhaaGreatDoor
open Go.RowKit

theorem cfg_okk (l : List UInt8) (h : (cfg l).2.1 = 0) : 1 ≤ (cfg l).1.most ∧ (cfg l).1.most ≤ 1000000 ∧ (cfg l).1.rules.length ≤ 1000 ∧ (∀ r ∈ (cfg l).1.rules, okR r) ∧ (cfg l).1.rules.Pairwise (fun a b => a.pre ≠ b.pre) ∧ hasP (cfg l).1.rules [] = true := by
  have hok := cFold_ok (spLines l) Pl0 okP_0
  revert h
  unfold cfg
  split
  · rename_i h1; intro h; exact absurd h h1
  · unfold cFin
    obtain ⟨h1, h2, h3, h4⟩ := hok
    split
    · rename_i h5; intro h; exact absurd h h5
    · split
      · intro h; simp at h
      · split
        · rename_i h5 h6 h7
          intro _
          refine ⟨by simp only; omega, h1, ?_, ?_, ?_, ?_⟩
          · show (sortR _).length ≤ 1000
            rw [sortR_len']; exact h2
          · intro r hr; exact h3 r (sortR_mem _ _ _ rfl hr)
          · exact ((sortR_perm _ _ rfl).symm.pairwise h4) (fun h e => h e.symm)
          · show hasP (sortR _) [] = true
            unfold hasP at h7 ⊢
            rw [List.any_eq_true] at h7 ⊢
            obtain ⟨x, hx, hp⟩ := h7
            exact ⟨x, (sortR_perm _ _ rfl).symm.mem_iff.1 hx, hp⟩
        · intro h; simp at h

end Go.Proofs.YtdgcgpapcbjfhaaGreatDoor

/- The errors of a text of rules, and how many rules there are. -/
namespace Go.Proofs.YtdgcgpapcbjfhaaGreatDoor
open Go.RowKit

theorem dE_b (t : List UInt8) : 0 ≤ dE t ∧ dE t ≤ 100 := by rcases dE_u16 t with h | h | h <;> rw [h] <;> omega
theorem numE_b (t : List UInt8) (k : Int) (hk : 0 ≤ k ∧ k ≤ 100) : 0 ≤ numE t k ∧ numE t k ≤ 100 := by
  have := dE_b t
  unfold numE
  split <;> first | assumption | omega
theorem burE_b (e : Int) (t : List UInt8) : 0 ≤ burE e t ∧ burE e t ≤ 100 := by
  have h1 := numE_b t 25 (by omega)
  unfold burE
  (repeat' split) <;> first | assumption | omega
theorem rTail_b (ws : List (List UInt8)) (a : Nat) (pre : List UInt8) : 0 ≤ (rTail ws a pre).2.1 ∧ (rTail ws a pre).2.1 ≤ 100 := by
  have h1 := numE_b (ws.getD a []) 24 (by omega)
  have h2 := burE_b (dV (ws.getD a [])) (ws.getD (a + 1) [])
  unfold rTail
  (repeat' split) <;> first | assumption | (simp only; omega)
theorem rpar_b (ws : List (List UInt8)) : 0 ≤ (rpar ws).2.1 ∧ (rpar ws).2.1 ≤ 100 := by
  unfold rpar
  (repeat' split) <;> first | exact rTail_b _ _ _ | (simp only; omega)
theorem cOne_b (p : Pl) (ts : List (List UInt8)) : 0 ≤ (cOne p ts).2.1 ∧ (cOne p ts).2.1 ≤ 100 := by
  have h1 := dE_b (ts.getD 1 [])
  have h2 := rpar_b ts
  unfold cOne
  (repeat' split) <;> first | assumption | (simp only; omega)
theorem cFold_b : ∀ (ls : List (List Wd)) (p : Pl), 0 ≤ (cFold p ls).2.1 ∧ (cFold p ls).2.1 ≤ 100
  | [], p => ⟨Int.le_refl _, by show (0 : Int) ≤ 100; omega⟩
  | l :: ls, p => by
    have h1 := cOne_b p (txts l)
    unfold cFold
    split
    · exact h1
    · exact cFold_b ls _
theorem cfg_b (l : List UInt8) : 0 ≤ (cfg l).2.1 ∧ (cfg l).2.1 ≤ 100 := by
  have h1 := cFold_b (spLines l) Pl0
  unfold cfg
  split
  · have h2 : 0 ≤ spE l ∧ spE l ≤ 100 := by unfold spE; split <;> omega
    exact h2
  · unfold cFin
    (repeat' split) <;> first | assumption | (simp only; omega)
theorem cfg_len (l : List UInt8) : (cfg l).1.rules.length ≤ 1000 := by
  by_cases h : (cfg l).2.1 = 0
  · exact (cfg_okk l h).2.2.1
  · have e : (cfg l).1 = Pl0 := by
      revert h
      unfold cfg
      split
      · intro _; rfl
      · unfold cFin
        split
        · intro _; rfl
        · split
          · intro _; rfl
          · split
            · intro h; exact absurd rfl h
            · intro _; rfl
    rw [e]; decide
theorem aE_b (l : List UInt8) : 0 ≤ aE l ∧ aE l ≤ 100 := by
  unfold aE
  (repeat' split) <;> first | exact dE_b _ | omega

end Go.Proofs.YtdgcgpapcbjfhaaGreatDoor
