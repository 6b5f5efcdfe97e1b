/- Whole numbers below 2 ^ 53 as floats of 64 bits: sums and differences of them are exact. -/
import Derived.Laws.FloatArith
set_option linter.unusedVariables false
set_option linter.unusedSimpArgs false

/- Whole numbers below 2 ^ 53 as floats of 64 bits: sums and differences of them are exact. -/
namespace Go.Proofs.YtdgcgpapcbjfhaaGreatDoor
open Ieee

theorem log2_up (n p : Nat) (hn : n ≠ 0) : (n * 2 ^ p).log2 = n.log2 + p := by
  have h0 : n * 2 ^ p ≠ 0 := Nat.mul_ne_zero hn (Nat.ne_of_gt (Nat.two_pow_pos p))
  rw [Nat.log2_eq_iff h0]
  refine ⟨?_, ?_⟩
  · rw [Nat.pow_add]; exact Nat.mul_le_mul_right _ (Nat.log2_self_le hn)
  · rw [show n.log2 + p + 1 = (n.log2 + 1) + p by omega, Nat.pow_add]
    exact Nat.mul_lt_mul_of_pos_right Nat.lt_log2_self (Nat.two_pow_pos p)

theorem cut_zero (way : Toward) (neg : Bool) (d : Nat) : way.cut neg 0 d = 0 := by
  unfold Toward.cut
  have hp : 0 < 1 <<< min d (Nat.log2 0 + 2) := by rw [Nat.shiftLeft_eq, Nat.one_mul]; exact Nat.two_pow_pos _
  generalize 1 <<< min d (Nat.log2 0 + 2) = g at hp
  cases way <;> simp <;> omega

theorem cut_exact (way : Toward) (neg : Bool) (q d : Nat) : way.cut neg (q * 2 ^ d) d = q := by
  by_cases hq : q = 0
  · subst hq; rw [Nat.zero_mul]; exact cut_zero way neg d
  unfold Toward.cut
  have hg : min d ((q * 2 ^ d).log2 + 2) = d := by rw [log2_up q d hq]; omega
  have hp : 0 < 2 ^ d := Nat.two_pow_pos d
  simp only [hg, Nat.shiftLeft_eq, Nat.one_mul]
  rw [Nat.mul_div_cancel _ hp, Nat.mul_mod_left]
  generalize 2 ^ d = g at hp
  cases way <;> simp <;> omega

theorem least_double : Ieee.double.leastPlace = -1074 := by decide

/-- the word of a whole number -/
def Fl (n : Nat) : Nat := Ieee.double.nearest false n 0

def flRung (n : Nat) : Nat := (n.log2 + 1022) * 2 ^ 52 + n * 2 ^ (52 - n.log2)

theorem fl_bounds {n : Nat} (h : n < 2 ^ 53) (hn : n ≠ 0) : n.log2 ≤ 52 ∧ 2 ^ 52 ≤ n * 2 ^ (52 - n.log2) ∧ n * 2 ^ (52 - n.log2) < 2 ^ 53 := by
  have hl : n.log2 < 53 := (Nat.log2_lt hn).2 h
  refine ⟨by omega, ?_, ?_⟩
  · have := Nat.mul_le_mul_right (2 ^ (52 - n.log2)) (Nat.log2_self_le hn)
    rw [← Nat.pow_add, show n.log2 + (52 - n.log2) = 52 by omega] at this
    exact this
  · have := Nat.mul_lt_mul_of_pos_right (Nat.lt_log2_self (n := n)) (Nat.two_pow_pos (52 - n.log2))
    rw [← Nat.pow_add, show n.log2 + 1 + (52 - n.log2) = 53 by omega] at this
    exact this

theorem nearest_pos (n p : Nat) (h : n < 2 ^ 53) (hn : n ≠ 0) : Ieee.double.nearest false (n * 2 ^ p) (-(p : Int)) = flRung n := by
  obtain ⟨hl, hlo, hhi⟩ := fl_bounds h hn
  have h0 : n * 2 ^ p ≠ 0 := Nat.mul_ne_zero hn (Nat.ne_of_gt (Nat.two_pow_pos p))
  unfold Format.nearest
  rw [if_neg h0]
  simp only [least_double, log2_up n p hn]
  have hf : (Ieee.double.fractionBits : Int) = 52 := rfl
  rw [hf]
  have hlast : max (-(p : Int) + ((n.log2 + p : Nat) : Int) - 52) (-1074) = (n.log2 : Int) - 52 := by omega
  rw [hlast]
  have hb : Ieee.double.binade = 2 ^ 52 := rfl
  have hi : Ieee.double.infRung = 2047 * 2 ^ 52 := rfl
  have hkept : Toward.even.cut false ((n * 2 ^ p) <<< (-(p : Int) - ((n.log2 : Int) - 52)).toNat) (((n.log2 : Int) - 52) - (-(p : Int))).toNat = n * 2 ^ (52 - n.log2) := by
    by_cases hp : p ≤ 52 - n.log2
    · rw [show (((n.log2 : Int) - 52) - (-(p : Int))).toNat = 0 by omega, show (-(p : Int) - ((n.log2 : Int) - 52)).toNat = 52 - n.log2 - p by omega, Nat.shiftLeft_eq, Nat.mul_assoc, ← Nat.pow_add,
        show p + (52 - n.log2 - p) = 52 - n.log2 by omega]
      have := cut_exact .even false (n * 2 ^ (52 - n.log2)) 0
      rw [Nat.pow_zero, Nat.mul_one] at this
      exact this
    · rw [show (((n.log2 : Int) - 52) - (-(p : Int))).toNat = p - (52 - n.log2) by omega, show (-(p : Int) - ((n.log2 : Int) - 52)).toNat = 0 by omega, Nat.shiftLeft_eq, Nat.pow_zero, Nat.mul_one]
      have := cut_exact .even false (n * 2 ^ (52 - n.log2)) (p - (52 - n.log2))
      rw [Nat.mul_assoc, ← Nat.pow_add, show 52 - n.log2 + (p - (52 - n.log2)) = p by omega] at this
      exact this
  rw [hkept, hb, hi, show (((n.log2 : Int) - 52) - (-1074)).toNat = n.log2 + 1022 by omega]
  have hm : min ((n.log2 + 1022) * 2 ^ 52 + n * 2 ^ (52 - n.log2)) (2047 * 2 ^ 52) = (n.log2 + 1022) * 2 ^ 52 + n * 2 ^ (52 - n.log2) := by
    apply Nat.min_eq_left
    clear hkept hlast hlo
    generalize n * 2 ^ (52 - n.log2) = X at hhi ⊢
    generalize n.log2 = L at hl ⊢
    omega
  rw [hm]
  rfl

theorem nearest_zero (i : Int) : Ieee.double.nearest false 0 i = 0 := by
  unfold Format.nearest; rw [if_pos rfl]; rfl

theorem fl_zero : Fl 0 = 0 := nearest_zero 0

theorem fl_pos {n : Nat} (h : n < 2 ^ 53) (hn : n ≠ 0) : Fl n = flRung n := by
  have := nearest_pos n 0 h hn
  rw [Nat.pow_zero, Nat.mul_one] at this
  exact this

theorem nearest_fl {n : Nat} (h : n < 2 ^ 53) (p : Nat) : Ieee.double.nearest false (n * 2 ^ p) (-(p : Int)) = Fl n := by
  by_cases hn : n = 0
  · subst hn; rw [Nat.zero_mul, fl_zero]; exact nearest_zero _
  · rw [fl_pos h hn]; exact nearest_pos n p h hn

theorem read_fl {n : Nat} (h : n < 2 ^ 53) : ∃ p : Nat, Ieee.double.read (Fl n) = .number false (n * 2 ^ p) (-(p : Int)) := by
  by_cases hn : n = 0
  · subst hn
    obtain ⟨p, hp⟩ : ∃ p : Nat, p = 1074 := ⟨_, rfl⟩
    refine ⟨p, ?_⟩
    rw [fl_zero, Nat.zero_mul, hp]
    rfl
  obtain ⟨hl, hlo, hhi⟩ := fl_bounds h hn
  refine ⟨52 - n.log2, ?_⟩
  rw [fl_pos h hn]
  unfold Format.read
  have hs : Ieee.double.signWeight = 2 ^ 63 := rfl
  have hb : Ieee.double.binade = 2 ^ 52 := rfl
  have hi : Ieee.double.infRung = 2047 * 2 ^ 52 := rfl
  simp only [least_double, hs, hb, hi]
  unfold flRung
  generalize n * 2 ^ (52 - n.log2) = X at hlo hhi ⊢
  generalize hL : n.log2 = L at hl ⊢
  have e1 : ((L + 1022) * 2 ^ 52 + X) / 2 ^ 63 = 0 := by omega
  have e2 : ((L + 1022) * 2 ^ 52 + X) % 2 ^ 63 = (L + 1022) * 2 ^ 52 + X := by omega
  have e3 : ¬ ((L + 1022) * 2 ^ 52 + X) < 2 ^ 52 := by omega
  have e4 : ((L + 1022) * 2 ^ 52 + X) < 2047 * 2 ^ 52 := by omega
  have e5 : 2 ^ 52 + ((L + 1022) * 2 ^ 52 + X) % 2 ^ 52 = X := by omega
  have e6 : ((L + 1022) * 2 ^ 52 + X) / 2 ^ 52 = L + 1023 := by omega
  rw [e1, e2, if_neg e3, if_pos e4, e5, e6]
  have e7 : (-1074 : Int) + ((L + 1023 - 1 : Nat) : Int) = -((52 - L : Nat) : Int) := by omega
  rw [e7]
  rfl

theorem up_max (a p q : Nat) : (a * 2 ^ p) <<< ((-(p : Int)) - (min (-(p : Int)) (-(q : Int)))).toNat = a * 2 ^ (max p q) := by
  rw [Nat.shiftLeft_eq, Nat.mul_assoc, ← Nat.pow_add]
  congr 2; omega

theorem fl_add {a b : Nat} (h : a + b < 2 ^ 53) : Ieee.double.add (Fl a) (Fl b) = some (Fl (a + b)) := by
  obtain ⟨p, hp⟩ := read_fl (n := a) (by omega)
  obtain ⟨q, hq⟩ := read_fl (n := b) (by omega)
  unfold Format.add
  rw [hp, hq]
  simp only [Datum.sum, Option.map_some, signed, Bool.false_eq_true, if_false, Bool.and_false]
  rw [up_max a p q, Int.min_comm, up_max b q p, Nat.max_comm q p]
  have ht : ((a * 2 ^ max p q : Nat) : Int) + ((b * 2 ^ max p q : Nat) : Int) = (((a + b) * 2 ^ max p q : Nat) : Int) := by rw [Nat.add_mul]; omega
  rw [ht]
  have hn : (if (((a + b) * 2 ^ max p q : Nat) : Int) = 0 then false else decide ((((a + b) * 2 ^ max p q : Nat) : Int) < 0)) = false := by
    split
    · rfl
    · exact decide_eq_false (Int.not_lt.2 (Int.natCast_nonneg _))
  rw [hn, Int.natAbs_natCast, show min (-(q : Int)) (-(p : Int)) = -((max p q : Nat) : Int) by omega]
  unfold Format.write
  simp only
  rw [nearest_fl h]

theorem fl_sub {a b : Nat} (h : a < 2 ^ 53) (hb : b ≤ a) : Ieee.double.sub (Fl a) (Fl b) = some (Fl (a - b)) := by
  obtain ⟨p, hp⟩ := read_fl (n := a) (by omega)
  obtain ⟨q, hq⟩ := read_fl (n := b) (by omega)
  unfold Format.sub
  rw [hp, hq]
  simp only [Datum.sum, Datum.opposite, Option.map_some, signed, Bool.false_eq_true, if_false, if_true, Bool.false_and, Bool.not_false]
  rw [up_max a p q, Int.min_comm, up_max b q p, Nat.max_comm q p]
  have ht : ((a * 2 ^ max p q : Nat) : Int) + -((b * 2 ^ max p q : Nat) : Int) = (((a - b) * 2 ^ max p q : Nat) : Int) := by
    have : b * 2 ^ max p q ≤ a * 2 ^ max p q := Nat.mul_le_mul_right _ hb
    rw [Nat.sub_mul]; omega
  rw [ht]
  have hn : (if (((a - b) * 2 ^ max p q : Nat) : Int) = 0 then false else decide ((((a - b) * 2 ^ max p q : Nat) : Int) < 0)) = false := by
    split
    · rfl
    · exact decide_eq_false (Int.not_lt.2 (Int.natCast_nonneg _))
  rw [hn, Int.natAbs_natCast, show min (-(q : Int)) (-(p : Int)) = -((max p q : Nat) : Int) by omega]
  unfold Format.write
  simp only
  rw [nearest_fl (by omega)]

theorem fl_toInt {n : Nat} (h : n < 2 ^ 53) : (FloatKind.f64.decode (Fl n)).toInt .zero = some (n : Int) := by
  obtain ⟨p, hp⟩ := read_fl h
  unfold FloatKind.decode FloatKind.format
  simp only [hp, Datum.toInt, Datum.integral]
  rw [show (-(p : Int)).toNat = 0 by omega, Nat.shiftLeft_eq, Nat.pow_zero, Nat.mul_one, show (- -(p : Int)).toNat = p by omega, cut_exact]
  simp [signed]

theorem fl_of_int (n : Nat) : FloatKind.f64.nearest (n : Int) = Fl n := by
  unfold FloatKind.nearest FloatKind.encode Format.write Fl FloatKind.format
  have : ¬ ((n : Int) < 0) := by omega
  simp [this]

end Go.Proofs.YtdgcgpapcbjfhaaGreatDoor
