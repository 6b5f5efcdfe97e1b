/- The long division, bit by bit; plain numbers, no program in sight. -/
import Derived.Test.YtdgcgpapcbjfhaaGreatDoorJ01SpecK
set_option linter.unusedVariables false
set_option linter.unusedSimpArgs false

/- Plain numbers of 128 bits: products, quotients; no program in sight. -/
namespace Go.Proofs.YtdgcgpapcbjfhaaGreatDoor

/-- the halves of a product -/
def mulH (a b : Int) : Int := a * b / 18446744073709551616
def mulL (a b : Int) : Int := a * b % 18446744073709551616

theorem mul_le_of {x y X Y : Int} (hx0 : 0 ≤ x) (hx : x ≤ X) (hy0 : 0 ≤ y) (hy : y ≤ Y) : 0 ≤ x * y ∧ x * y ≤ X * Y :=
  ⟨Int.mul_nonneg hx0 hy0, Int.mul_le_mul hx hy hy0 (Int.le_trans hx0 hx)⟩

theorem mul_U {a b : Int} (ha : U a) (hb : U b) : 0 ≤ a * b ∧ a * b ≤ 340282366920938463426481119284349108225 := by
  have := mul_le_of ha.lo ha.hi hb.lo hb.hi
  omega

theorem mulH_U {a b : Int} (ha : U a) (hb : U b) : U (mulH a b) := by
  have := mul_U ha hb; unfold U mulH; omega
theorem mulL_U {a b : Int} (ha : U a) (hb : U b) : U (mulL a b) := by
  have := mul_U ha hb; unfold U mulL; omega
theorem mul_split (a b : Int) : mulH a b * 18446744073709551616 + mulL a b = a * b := by
  unfold mulH mulL; omega

/-- schoolbook: four products of halves -/
theorem mul_parts {a b x0 x1 y0 y1 : Int} (ha : a = x1 * 4294967296 + x0) (hb : b = y1 * 4294967296 + y0) :
    a * b = x1 * y1 * 18446744073709551616 + (x1 * y0 + x0 * y1) * 4294967296 + x0 * y0 := by
  subst ha hb
  rw [Int.add_mul, Int.mul_add, Int.mul_add]
  have e1 : x1 * 4294967296 * (y1 * 4294967296) = x1 * y1 * 18446744073709551616 := by
    rw [Int.mul_assoc, Int.mul_left_comm 4294967296 y1, ← Int.mul_assoc, ← Int.mul_assoc]; omega
  have e2 : x1 * 4294967296 * y0 = x1 * y0 * 4294967296 := by rw [Int.mul_right_comm]
  have e3 : x0 * (y1 * 4294967296) = x0 * y1 * 4294967296 := by rw [Int.mul_assoc]
  rw [e1, e2, e3]; omega

theorem mul_school {a b P00 P01 P10 P11 : Int} (h : a * b = P11 * 18446744073709551616 + (P10 + P01) * 4294967296 + P00)
    (h00 : 0 ≤ P00 ∧ P00 ≤ 18446744065119617025) (h01 : 0 ≤ P01 ∧ P01 ≤ 18446744065119617025) (h10 : 0 ≤ P10 ∧ P10 ≤ 18446744065119617025) (h11 : 0 ≤ P11 ∧ P11 ≤ 18446744065119617025) :
    mulH a b = P11 + (P10 + P00 / 4294967296) / 4294967296 + (P01 + (P10 + P00 / 4294967296) % 4294967296) / 4294967296 ∧
    mulL a b = (P01 + (P10 + P00 / 4294967296) % 4294967296) % 4294967296 * 4294967296 + P00 % 4294967296 := by
  unfold mulH mulL
  constructor <;> omega

/-- quotient and rest of h * 2^64 + l by d -/
def divQ (h l d : Int) : Int := if h < d then (h * 18446744073709551616 + l) / d else 0
def divR (h l d : Int) : Int := if h < d then (h * 18446744073709551616 + l) % d else 0
def divOk (h d : Int) : Bool := decide (h < d)

theorem divR_bound {h l d : Int} (hh : 0 ≤ h) (hd : h < d) : 0 ≤ divR h l d ∧ divR h l d < d := by
  unfold divR; rw [if_pos hd]
  exact ⟨Int.emod_nonneg _ (by omega), Int.emod_lt_of_pos _ (by omega)⟩
theorem div_split {h l d : Int} (hd : h < d) : divQ h l d * d + divR h l d = h * 18446744073709551616 + l := by
  unfold divQ divR; rw [if_pos hd, if_pos hd, Int.mul_comm]; exact Int.mul_ediv_add_emod _ _
theorem divQ_bound {h l d : Int} (hh : 0 ≤ h) (hl : 0 ≤ l) (hl' : l < 18446744073709551616) (hd : h < d) : 0 ≤ divQ h l d ∧ divQ h l d < 18446744073709551616 := by
  unfold divQ; rw [if_pos hd]
  refine ⟨Int.ediv_nonneg (by omega) (by omega), Int.ediv_lt_of_lt_mul (by omega) ?_⟩
  have : h * 18446744073709551616 + 18446744073709551616 ≤ 18446744073709551616 * d := by omega
  omega
theorem divQ_U {h l d : Int} (hh : U h) (hl : U l) (hd : U d) : U (divQ h l d) := by
  unfold U at *
  by_cases hlt : h < d
  · have := divQ_bound hh.1 hl.1 (by omega) hlt; omega
  · unfold divQ; rw [if_neg hlt]; omega
theorem divR_U {h l d : Int} (hh : U h) (hl : U l) (hd : U d) : U (divR h l d) := by
  unfold U at *
  by_cases hlt : h < d
  · have := divR_bound (l := l) hh.1 hlt; omega
  · unfold divR; rw [if_neg hlt]; omega

/-- one round of the long division: from (r, q) with n = q * d + r, r < d, to 2 n + bit -/
theorem div_round {d r q bit n : Int} (hd : 0 < d) (hr : 0 ≤ r) (hrd : r < d) (hn : n = q * d + r) (hb : bit = 0 ∨ bit = 1) :
    (2 * r + bit < d → 2 * n + bit = 2 * q * d + (2 * r + bit)) ∧ (¬ 2 * r + bit < d → 2 * n + bit = (2 * q + 1) * d + (2 * r + bit - d)) := by
  have e1 : 2 * q * d = 2 * (q * d) := by rw [Int.mul_assoc]
  have e2 : (2 * q + 1) * d = 2 * (q * d) + d := by rw [Int.add_mul, Int.one_mul, e1]
  constructor <;> intro h
  · rw [e1]; omega
  · rw [e2]; omega

/-- the end of the long division -/
theorem div_unique {n d q r : Int} (hd : 0 < d) (h : n = q * d + r) (h0 : 0 ≤ r) (h1 : r < d) : n / d = q ∧ n % d = r := by
  subst h
  rw [Int.add_comm, Int.mul_comm, Int.add_mul_ediv_left _ _ (by omega), Int.add_mul_emod_self_left, Int.ediv_eq_zero_of_lt h0 h1, Int.emod_eq_of_lt h0 h1]
  omega

def mdQ (a b d : Int) : Int := divQ (mulH a b) (mulL a b) d
def mdOk (a b d : Int) : Bool := divOk (mulH a b) d

end Go.Proofs.YtdgcgpapcbjfhaaGreatDoor

/- The long division, bit by bit; plain numbers, no program in sight. -/
namespace Go.Proofs.YtdgcgpapcbjfhaaGreatDoor

/-- the number that the first k bits make, behind h -/
def dN (bit : Nat → Int) (h : Int) : Nat → Int
  | 0 => h
  | k + 1 => 2 * dN bit h k + bit k

theorem dN_bound {bit : Nat → Int} {h d : Int} (hb : ∀ k, bit k = 0 ∨ bit k = 1) (hh : 0 ≤ h) (hd : h < d) (k : Nat) : 0 ≤ dN bit h k ∧ dN bit h k + 1 ≤ d * 2 ^ k := by
  induction k with
  | zero => simp [dN]; omega
  | succ k ih =>
    have hk := hb k
    simp only [dN]
    rw [Int.pow_succ, ← Int.mul_assoc]
    omega

/-- one round -/
theorem dN_round {bit : Nat → Int} {h d : Int} (hb : ∀ k, bit k = 0 ∨ bit k = 1) (hh : 0 ≤ h) (hd : h < d) (k : Nat) (hk : k < 64) :
    (0 ≤ dN bit h k % d ∧ dN bit h k % d < d) ∧ (0 ≤ dN bit h k / d ∧ dN bit h k / d ≤ 9223372036854775807) ∧
    (2 * (dN bit h k % d) + bit k < d → dN bit h (k + 1) % d = 2 * (dN bit h k % d) + bit k ∧ dN bit h (k + 1) / d = 2 * (dN bit h k / d)) ∧
    (d ≤ 2 * (dN bit h k % d) + bit k → dN bit h (k + 1) % d = 2 * (dN bit h k % d) + bit k - d ∧ dN bit h (k + 1) / d = 2 * (dN bit h k / d) + 1) := by
  have hB := dN_bound hb hh hd k
  have hdp : 0 < d := by omega
  have r0 := Int.emod_nonneg (dN bit h k) (show d ≠ 0 by omega)
  have r1 := Int.emod_lt_of_pos (dN bit h k) hdp
  have q0 : 0 ≤ dN bit h k / d := Int.ediv_nonneg hB.1 (by omega)
  have q1 : dN bit h k / d < 2 ^ k := Int.ediv_lt_of_lt_mul hdp (by rw [Int.mul_comm]; omega)
  have q2 : (2 : Int) ^ k ≤ 2 ^ 63 := by exact_mod_cast Nat.pow_le_pow_right (by omega) (by omega : k ≤ 63)
  have q3 : (2 : Int) ^ 63 = 9223372036854775808 := by decide
  have hs : dN bit h k = dN bit h k / d * d + dN bit h k % d := by rw [Int.mul_comm]; exact (Int.mul_ediv_add_emod _ _).symm
  have hr := div_round (d := d) (r := dN bit h k % d) (q := dN bit h k / d) (bit := bit k) (n := dN bit h k) hdp r0 r1 hs (hb k)
  have hkb := hb k
  refine ⟨⟨r0, r1⟩, ⟨q0, by omega⟩, ?_, ?_⟩
  · intro hlt
    have e := hr.1 hlt
    have u := div_unique (n := dN bit h (k + 1)) (q := 2 * (dN bit h k / d)) (r := 2 * (dN bit h k % d) + bit k) hdp (by simp only [dN]; exact e) (by omega) hlt
    exact ⟨u.2, u.1⟩
  · intro hge
    have e := hr.2 (by omega)
    have u := div_unique (n := dN bit h (k + 1)) (q := 2 * (dN bit h k / d) + 1) (r := 2 * (dN bit h k % d) + bit k - d) hdp (by simp only [dN]; exact e) (by omega) (by omega)
    exact ⟨u.2, u.1⟩

/-- the lower half as it is shifted to the left -/
def dL (l : Int) : Nat → Int
  | 0 => l
  | k + 1 => 2 * dL l k % 18446744073709551616
def dBit (l : Int) (k : Nat) : Int := dL l k / 9223372036854775808

theorem dL_U {l : Int} (hl : 0 ≤ l) (hl' : l ≤ 18446744073709551615) (k : Nat) : 0 ≤ dL l k ∧ dL l k ≤ 18446744073709551615 := by
  cases k with
  | zero => exact ⟨hl, hl'⟩
  | succ k => simp only [dL]; omega
theorem dBit_01 {l : Int} (hl : 0 ≤ l) (hl' : l ≤ 18446744073709551615) (k : Nat) : dBit l k = 0 ∨ dBit l k = 1 := by
  have := dL_U hl hl' k; unfold dBit; omega

theorem dN_inv {l h : Int} (hl : 0 ≤ l) (hl' : l ≤ 18446744073709551615) (k : Nat) : dN (dBit l) h k * 18446744073709551616 + dL l k = (h * 18446744073709551616 + l) * 2 ^ k := by
  induction k with
  | zero => simp [dN, dL]
  | succ k ih =>
    have hb := dL_U hl hl' k
    rw [Int.pow_succ, ← Int.mul_assoc, ← ih]
    simp only [dN, dL, dBit]
    omega

theorem dN_end {l h : Int} (hl : 0 ≤ l) (hl' : l ≤ 18446744073709551615) : dN (dBit l) h 64 = h * 18446744073709551616 + l := by
  have h1 := dN_inv (h := h) hl hl' 64
  have h2 := dL_U hl hl' 64
  have h3 : (2 : Int) ^ 64 = 18446744073709551616 := by decide
  rw [h3] at h1
  omega

/-- the lower half's bits, read from the top -/
def rBit (l : Int) (k : Nat) : Int := l / 2 ^ (63 - k) % 2
theorem rBit_01 (l : Int) (k : Nat) : rBit l k = 0 ∨ rBit l k = 1 := by unfold rBit; omega

theorem rN_inv {l h : Int} (hl : 0 ≤ l) (hl' : l ≤ 18446744073709551615) (k : Nat) (hk : k ≤ 64) : dN (rBit l) h k = h * 2 ^ k + l / 2 ^ (64 - k) := by
  induction k with
  | zero =>
    have h3 : (2 : Int) ^ 64 = 18446744073709551616 := by decide
    simp only [dN, Nat.sub_zero, h3]
    omega
  | succ k ih =>
    have ih := ih (by omega)
    simp only [dN, ih, rBit]
    have e0 : (2 : Int) ^ (64 - k) = 2 ^ (63 - k) * 2 := by rw [← Int.pow_succ]; congr 1; omega
    have e1 : l / 2 ^ (63 - k) / 2 = l / 2 ^ (64 - k) := by
      rw [Int.ediv_ediv_of_nonneg (Int.le_of_lt (Int.pow_pos (by omega))), e0]
    have e2 : 64 - (k + 1) = 63 - k := by omega
    have e3 : h * 2 ^ (k + 1) = 2 * (h * 2 ^ k) := by rw [Int.pow_succ, ← Int.mul_assoc, Int.mul_comm]
    rw [e2, e3, ← e1]
    generalize l / 2 ^ (63 - k) = X at *
    generalize h * 2 ^ k = Y at *
    omega

theorem rN_end {l h : Int} (hl : 0 ≤ l) (hl' : l ≤ 18446744073709551615) : dN (rBit l) h 64 = h * 18446744073709551616 + l := by
  have h1 := rN_inv (h := h) hl hl' 64 (by omega)
  have h3 : (2 : Int) ^ 64 = 18446744073709551616 := by decide
  rw [h3] at h1
  simpa using h1

end Go.Proofs.YtdgcgpapcbjfhaaGreatDoor
