/- The long division, bit by bit; plain numbers, no program in sight. -/
import Derived.Test.YtfabgfenelaheaaWideSpec
set_option linter.unusedVariables false
namespace Go.Proofs.Ytfabgfenelaheaa

/-- the number that the first k bits make, behind h -/
def dN (bit : Nat → Int) (h : Int) : Nat → Int
  | 0 => h
  | k + 1 => 2 * dN bit h k + bit k

theorem dN_bound {bit : Nat → Int} {h d : Int} (hb : ∀ k, bit k = 0 ∨ bit k = 1) (hh : 0 ≤ h) (hd : h < d) (k : Nat) : 0 ≤ dN bit h k ∧ dN bit h k + 1 ≤ d * 2 ^ k := by
  induction k with
  | zero => simp [dN]; omega
  | succ k ih =>
    have hk := hb k
    simp only [dN]
    rw [Int.pow_succ, ← Int.mul_assoc]
    omega

/-- one round -/
theorem dN_round {bit : Nat → Int} {h d : Int} (hb : ∀ k, bit k = 0 ∨ bit k = 1) (hh : 0 ≤ h) (hd : h < d) (k : Nat) (hk : k < 64) :
    (0 ≤ dN bit h k % d ∧ dN bit h k % d < d) ∧ (0 ≤ dN bit h k / d ∧ dN bit h k / d ≤ 9223372036854775807) ∧
    (2 * (dN bit h k % d) + bit k < d → dN bit h (k + 1) % d = 2 * (dN bit h k % d) + bit k ∧ dN bit h (k + 1) / d = 2 * (dN bit h k / d)) ∧
    (d ≤ 2 * (dN bit h k % d) + bit k → dN bit h (k + 1) % d = 2 * (dN bit h k % d) + bit k - d ∧ dN bit h (k + 1) / d = 2 * (dN bit h k / d) + 1) := by
  have hB := dN_bound hb hh hd k
  have hdp : 0 < d := by omega
  have r0 := Int.emod_nonneg (dN bit h k) (show d ≠ 0 by omega)
  have r1 := Int.emod_lt_of_pos (dN bit h k) hdp
  have q0 : 0 ≤ dN bit h k / d := Int.ediv_nonneg hB.1 (by omega)
  have q1 : dN bit h k / d < 2 ^ k := Int.ediv_lt_of_lt_mul hdp (by rw [Int.mul_comm]; omega)
  have q2 : (2 : Int) ^ k ≤ 2 ^ 63 := by exact_mod_cast Nat.pow_le_pow_right (by omega) (by omega : k ≤ 63)
  have q3 : (2 : Int) ^ 63 = 9223372036854775808 := by decide
  have hs : dN bit h k = dN bit h k / d * d + dN bit h k % d := by rw [Int.mul_comm]; exact (Int.mul_ediv_add_emod _ _).symm
  have hr := div_round (d := d) (r := dN bit h k % d) (q := dN bit h k / d) (bit := bit k) (n := dN bit h k) hdp r0 r1 hs (hb k)
  have hkb := hb k
  refine ⟨⟨r0, r1⟩, ⟨q0, by omega⟩, ?_, ?_⟩
  · intro hlt
    have e := hr.1 hlt
    have u := div_unique (n := dN bit h (k + 1)) (q := 2 * (dN bit h k / d)) (r := 2 * (dN bit h k % d) + bit k) hdp (by simp only [dN]; exact e) (by omega) hlt
    exact ⟨u.2, u.1⟩
  · intro hge
    have e := hr.2 (by omega)
    have u := div_unique (n := dN bit h (k + 1)) (q := 2 * (dN bit h k / d) + 1) (r := 2 * (dN bit h k % d) + bit k - d) hdp (by simp only [dN]; exact e) (by omega) (by omega)
    exact ⟨u.2, u.1⟩

/-- the lower half as it is shifted to the left -/
def dL (l : Int) : Nat → Int
  | 0 => l
  | k + 1 => 2 * dL l k % 18446744073709551616
def dBit (l : Int) (k : Nat) : Int := dL l k / 9223372036854775808

theorem dL_U {l : Int} (hl : 0 ≤ l) (hl' : l ≤ 18446744073709551615) (k : Nat) : 0 ≤ dL l k ∧ dL l k ≤ 18446744073709551615 := by
  cases k with
  | zero => exact ⟨hl, hl'⟩
  | succ k => simp only [dL]; omega
theorem dBit_01 {l : Int} (hl : 0 ≤ l) (hl' : l ≤ 18446744073709551615) (k : Nat) : dBit l k = 0 ∨ dBit l k = 1 := by
  have := dL_U hl hl' k; unfold dBit; omega

theorem dN_inv {l h : Int} (hl : 0 ≤ l) (hl' : l ≤ 18446744073709551615) (k : Nat) : dN (dBit l) h k * 18446744073709551616 + dL l k = (h * 18446744073709551616 + l) * 2 ^ k := by
  induction k with
  | zero => simp [dN, dL]
  | succ k ih =>
    have hb := dL_U hl hl' k
    rw [Int.pow_succ, ← Int.mul_assoc, ← ih]
    simp only [dN, dL, dBit]
    omega

theorem dN_end {l h : Int} (hl : 0 ≤ l) (hl' : l ≤ 18446744073709551615) : dN (dBit l) h 64 = h * 18446744073709551616 + l := by
  have h1 := dN_inv (h := h) hl hl' 64
  have h2 := dL_U hl hl' 64
  have h3 : (2 : Int) ^ 64 = 18446744073709551616 := by decide
  rw [h3] at h1
  omega

/-- the lower half's bits, read from the top -/
def rBit (l : Int) (k : Nat) : Int := l / 2 ^ (63 - k) % 2
theorem rBit_01 (l : Int) (k : Nat) : rBit l k = 0 ∨ rBit l k = 1 := by unfold rBit; omega

theorem rN_inv {l h : Int} (hl : 0 ≤ l) (hl' : l ≤ 18446744073709551615) (k : Nat) (hk : k ≤ 64) : dN (rBit l) h k = h * 2 ^ k + l / 2 ^ (64 - k) := by
  induction k with
  | zero =>
    have h3 : (2 : Int) ^ 64 = 18446744073709551616 := by decide
    simp only [dN, Nat.sub_zero, h3]
    omega
  | succ k ih =>
    have ih := ih (by omega)
    simp only [dN, ih, rBit]
    have e0 : (2 : Int) ^ (64 - k) = 2 ^ (63 - k) * 2 := by rw [← Int.pow_succ]; congr 1; omega
    have e1 : l / 2 ^ (63 - k) / 2 = l / 2 ^ (64 - k) := by
      rw [Int.ediv_ediv_of_nonneg (Int.le_of_lt (Int.pow_pos (by omega))), e0]
    have e2 : 64 - (k + 1) = 63 - k := by omega
    have e3 : h * 2 ^ (k + 1) = 2 * (h * 2 ^ k) := by rw [Int.pow_succ, ← Int.mul_assoc, Int.mul_comm]
    rw [e2, e3, ← e1]
    generalize l / 2 ^ (63 - k) = X at *
    generalize h * 2 ^ k = Y at *
    omega

theorem rN_end {l h : Int} (hl : 0 ≤ l) (hl' : l ≤ 18446744073709551615) : dN (rBit l) h 64 = h * 18446744073709551616 + l := by
  have h1 := rN_inv (h := h) hl hl' 64 (by omega)
  have h3 : (2 : Int) ^ 64 = 18446744073709551616 := by decide
  rw [h3] at h1
  simpa using h1

end Go.Proofs.Ytfabgfenelaheaa
