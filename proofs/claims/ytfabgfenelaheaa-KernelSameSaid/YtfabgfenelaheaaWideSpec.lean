/- Plain numbers of 128 bits: products, quotients; no program in sight. -/
import Derived.Test.YtfabgfenelaheaaSpec
set_option linter.unusedVariables false
namespace Go.Proofs.Ytfabgfenelaheaa

/-- the halves of a product -/
def mulH (a b : Int) : Int := a * b / 18446744073709551616
def mulL (a b : Int) : Int := a * b % 18446744073709551616

theorem mul_le_of {x y X Y : Int} (hx0 : 0 ≤ x) (hx : x ≤ X) (hy0 : 0 ≤ y) (hy : y ≤ Y) : 0 ≤ x * y ∧ x * y ≤ X * Y :=
  ⟨Int.mul_nonneg hx0 hy0, Int.mul_le_mul hx hy hy0 (Int.le_trans hx0 hx)⟩

theorem mul_U {a b : Int} (ha : U a) (hb : U b) : 0 ≤ a * b ∧ a * b ≤ 340282366920938463426481119284349108225 := by
  have := mul_le_of ha.lo ha.hi hb.lo hb.hi
  omega

theorem mulH_U {a b : Int} (ha : U a) (hb : U b) : U (mulH a b) := by
  have := mul_U ha hb; unfold U mulH; omega
theorem mulL_U {a b : Int} (ha : U a) (hb : U b) : U (mulL a b) := by
  have := mul_U ha hb; unfold U mulL; omega
theorem mul_split (a b : Int) : mulH a b * 18446744073709551616 + mulL a b = a * b := by
  unfold mulH mulL; omega

/-- schoolbook: four products of halves -/
theorem mul_parts {a b x0 x1 y0 y1 : Int} (ha : a = x1 * 4294967296 + x0) (hb : b = y1 * 4294967296 + y0) :
    a * b = x1 * y1 * 18446744073709551616 + (x1 * y0 + x0 * y1) * 4294967296 + x0 * y0 := by
  subst ha hb
  rw [Int.add_mul, Int.mul_add, Int.mul_add]
  have e1 : x1 * 4294967296 * (y1 * 4294967296) = x1 * y1 * 18446744073709551616 := by
    rw [Int.mul_assoc, Int.mul_left_comm 4294967296 y1, ← Int.mul_assoc, ← Int.mul_assoc]; omega
  have e2 : x1 * 4294967296 * y0 = x1 * y0 * 4294967296 := by rw [Int.mul_right_comm]
  have e3 : x0 * (y1 * 4294967296) = x0 * y1 * 4294967296 := by rw [Int.mul_assoc]
  rw [e1, e2, e3]; omega

theorem mul_school {a b P00 P01 P10 P11 : Int} (h : a * b = P11 * 18446744073709551616 + (P10 + P01) * 4294967296 + P00)
    (h00 : 0 ≤ P00 ∧ P00 ≤ 18446744065119617025) (h01 : 0 ≤ P01 ∧ P01 ≤ 18446744065119617025) (h10 : 0 ≤ P10 ∧ P10 ≤ 18446744065119617025) (h11 : 0 ≤ P11 ∧ P11 ≤ 18446744065119617025) :
    mulH a b = P11 + (P10 + P00 / 4294967296) / 4294967296 + (P01 + (P10 + P00 / 4294967296) % 4294967296) / 4294967296 ∧
    mulL a b = (P01 + (P10 + P00 / 4294967296) % 4294967296) % 4294967296 * 4294967296 + P00 % 4294967296 := by
  unfold mulH mulL
  constructor <;> omega

/-- quotient and rest of h * 2^64 + l by d -/
def divQ (h l d : Int) : Int := if h < d then (h * 18446744073709551616 + l) / d else 0
def divR (h l d : Int) : Int := if h < d then (h * 18446744073709551616 + l) % d else 0
def divOk (h d : Int) : Bool := decide (h < d)

theorem divR_bound {h l d : Int} (hh : 0 ≤ h) (hd : h < d) : 0 ≤ divR h l d ∧ divR h l d < d := by
  unfold divR; rw [if_pos hd]
  exact ⟨Int.emod_nonneg _ (by omega), Int.emod_lt_of_pos _ (by omega)⟩
theorem div_split {h l d : Int} (hd : h < d) : divQ h l d * d + divR h l d = h * 18446744073709551616 + l := by
  unfold divQ divR; rw [if_pos hd, if_pos hd, Int.mul_comm]; exact Int.mul_ediv_add_emod _ _
theorem divQ_bound {h l d : Int} (hh : 0 ≤ h) (hl : 0 ≤ l) (hl' : l < 18446744073709551616) (hd : h < d) : 0 ≤ divQ h l d ∧ divQ h l d < 18446744073709551616 := by
  unfold divQ; rw [if_pos hd]
  refine ⟨Int.ediv_nonneg (by omega) (by omega), Int.ediv_lt_of_lt_mul (by omega) ?_⟩
  have : h * 18446744073709551616 + 18446744073709551616 ≤ 18446744073709551616 * d := by omega
  omega
theorem divQ_U {h l d : Int} (hh : U h) (hl : U l) (hd : U d) : U (divQ h l d) := by
  unfold U at *
  by_cases hlt : h < d
  · have := divQ_bound hh.1 hl.1 (by omega) hlt; omega
  · unfold divQ; rw [if_neg hlt]; omega
theorem divR_U {h l d : Int} (hh : U h) (hl : U l) (hd : U d) : U (divR h l d) := by
  unfold U at *
  by_cases hlt : h < d
  · have := divR_bound (l := l) hh.1 hlt; omega
  · unfold divR; rw [if_neg hlt]; omega

/-- one round of the long division: from (r, q) with n = q * d + r, r < d, to 2 n + bit -/
theorem div_round {d r q bit n : Int} (hd : 0 < d) (hr : 0 ≤ r) (hrd : r < d) (hn : n = q * d + r) (hb : bit = 0 ∨ bit = 1) :
    (2 * r + bit < d → 2 * n + bit = 2 * q * d + (2 * r + bit)) ∧ (¬ 2 * r + bit < d → 2 * n + bit = (2 * q + 1) * d + (2 * r + bit - d)) := by
  have e1 : 2 * q * d = 2 * (q * d) := by rw [Int.mul_assoc]
  have e2 : (2 * q + 1) * d = 2 * (q * d) + d := by rw [Int.add_mul, Int.one_mul, e1]
  constructor <;> intro h
  · rw [e1]; omega
  · rw [e2]; omega

/-- the end of the long division -/
theorem div_unique {n d q r : Int} (hd : 0 < d) (h : n = q * d + r) (h0 : 0 ≤ r) (h1 : r < d) : n / d = q ∧ n % d = r := by
  subst h
  rw [Int.add_comm, Int.mul_comm, Int.add_mul_ediv_left _ _ (by omega), Int.add_mul_emod_self_left, Int.ediv_eq_zero_of_lt h0 h1, Int.emod_eq_of_lt h0 h1]
  omega

def mdQ (a b d : Int) : Int := divQ (mulH a b) (mulL a b) d
def mdOk (a b d : Int) : Bool := divOk (mulH a b) d

end Go.Proofs.Ytfabgfenelaheaa
