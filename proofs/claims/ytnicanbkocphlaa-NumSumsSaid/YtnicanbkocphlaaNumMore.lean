/- Contracts of the layer num: products, quotients, times; and of its reference. -/
import Derived.Test.YtnicanbkocphlaaWideRefB
set_option linter.unusedVariables false
namespace Go.Proofs.Ytnicanbkocphlaa
open Go.RowKit

attribute [local go_sem] ite_min ite_max

def umul (a b : Int) : Int := if mulH a b = 0 then mulL a b else 18446744073709551615
def udiv (a b : Int) : Int := if b = 0 then 18446744073709551615 else a / b
def uceil (a b : Int) : Int := if b = 0 then 18446744073709551615 else if a % b = 0 then a / b else a / b + 1

theorem udiv_b {a b : Int} (ha : U a) (hb : 0 < b) : 0 ≤ a / b ∧ a / b ≤ 18446744073709551615 :=
  ⟨Int.ediv_nonneg ha.1 (by omega), Int.le_trans (Int.ediv_le_self _ ha.1) ha.2⟩

theorem ediv_two {a b : Int} (ha : 0 ≤ a) (hb : 2 ≤ b) : a / b ≤ a / 2 := by
  have h1 : a / b * b ≤ a := by rw [Int.mul_comm]; have := Int.mul_ediv_add_emod a b; have := Int.emod_nonneg a (show b ≠ 0 by omega); omega
  have h2 : 0 ≤ a / b := Int.ediv_nonneg ha (by omega)
  have h3 : a / b * 2 ≤ a / b * b := Int.mul_le_mul_of_nonneg_left hb h2
  omega

theorem uceil_b {a b : Int} (ha : U a) (hb : 0 < b) (h : a % b ≠ 0) : a / b ≤ 9223372036854775807 := by
  have hb2 : 2 ≤ b := by
    rcases Int.lt_or_le b 2 with h1 | h1
    · have : b = 1 := by omega
      subst this; omega
    · exact h1
  have := ediv_two ha.1 hb2
  have := ha.2
  omega

theorem nMul (a b : Int) (ha : U a) (hb : U b) (w : World) :
    Calls Try.prog 27 #[.int .u64 a, .int .u64 b] w fun e w' => e = .returned (.int .u64 (umul a b)) ∧ Ext w w' := by
  have hH := mulH_U ha hb
  obtain ⟨H, eH⟩ : ∃ x, mulH a b = x := ⟨_, rfl⟩
  obtain ⟨L, eL⟩ : ∃ x, mulL a b = x := ⟨_, rfl⟩
  have hu : umul a b = if H = 0 then L else 18446744073709551615 := by unfold umul; rw [eH, eL]
  rw [hu]
  have HH := Lib.hid (And.intro eH eL)
  clear eH eL hu
  go_enter Try.func27, Try.ntmps27
  go_wp2_with fail
  refine (wMul a b ha hb _).mono ?_
  rintro e w1 ⟨rfl, hb1⟩
  rw [HH.out.1, HH.out.2]
  by_cases h : H = 0
  · subst h
    go_wp2
    go_ret
    exact ⟨rfl, hb1⟩
  · go_wp2
    go_ret
    exact ⟨rfl, hb1⟩

theorem r2Mul (a b : Int) (ha : U a) (hb : U b) (w : World) :
    Calls Try.prog 45 #[.int .u64 a, .int .u64 b] w fun e w' => e = .returned (.int .u64 (umul a b)) ∧ w = w' := by
  have hH := mulH_U ha hb
  obtain ⟨H, eH⟩ : ∃ x, mulH a b = x := ⟨_, rfl⟩
  obtain ⟨L, eL⟩ : ∃ x, mulL a b = x := ⟨_, rfl⟩
  have hu : umul a b = if H = 0 then L else 18446744073709551615 := by unfold umul; rw [eH, eL]
  rw [hu]
  rw [eH] at hH
  have HH := Lib.hid (And.intro eH eL)
  clear eH eL hu
  have hH0 := hH.1
  go_enter Try.func45, Try.ntmps45
  go_wp2_with fail
  refine (r1Mul a b ha hb _).mono ?_
  rintro e w1 ⟨rfl, rfl⟩
  rw [HH.out.1, HH.out.2]
  by_cases h : H = 0
  · subst h
    go_wp2
    go_ret
    exact ⟨rfl, rfl⟩
  · have h' : 0 < H := by omega
    go_wp2
    go_ret
    exact ⟨rfl, rfl⟩

theorem nDiv (a b : Int) (ha : U a) (hb : U b) (w : World) :
    Calls Try.prog 29 #[.int .u64 a, .int .u64 b] w fun e w' => e = .returned (.int .u64 (udiv a b)) ∧ w = w' := by
  obtain ⟨ha1, ha2⟩ := ha
  obtain ⟨hb1, hb2⟩ := hb
  by_cases h : b = 0
  · subst h
    go_enter Try.func29, Try.ntmps29
    go_wp2
    go_ret
    exact ⟨ret_u64 (by unfold udiv; simp), rfl⟩
  · have h' : 1 ≤ b := by omega
    have hq := (b : Int) |> fun _ => h'
    have hz : (b == 0) = false := by rw [beq_eq_false_iff_ne]; exact h
    clear hq
    go_enter Try.func29, Try.ntmps29
    go_wp2
    go_ret
    exact ⟨ret_u64 (by unfold udiv; rw [if_neg h]), rfl⟩

theorem r2Div (a b : Int) (ha : U a) (hb : U b) (w : World) :
    Calls Try.prog 47 #[.int .u64 a, .int .u64 b] w fun e w' => e = .returned (.int .u64 (udiv a b)) ∧ w = w' := by
  obtain ⟨ha1, ha2⟩ := ha
  obtain ⟨hb1, hb2⟩ := hb
  by_cases h : b = 0
  · subst h
    go_enter Try.func47, Try.ntmps47
    go_wp2
    go_ret
    exact ⟨ret_u64 (by unfold udiv; simp), rfl⟩
  · have h' : 1 ≤ b := by omega
    have hz : (b == 0) = false := by rw [beq_eq_false_iff_ne]; exact h
    go_enter Try.func47, Try.ntmps47
    go_wp2
    go_ret
    exact ⟨ret_u64 (by unfold udiv; rw [if_neg h]), rfl⟩

theorem nCeil (a b : Int) (ha : U a) (hb : U b) (w : World) :
    Calls Try.prog 30 #[.int .u64 a, .int .u64 b] w fun e w' => e = .returned (.int .u64 (uceil a b)) ∧ w = w' := by
  by_cases h : b = 0
  · subst h
    go_enter Try.func30, Try.ntmps30
    go_wp2
    go_ret
    exact ⟨ret_u64 (by unfold uceil; simp), rfl⟩
  · have h' : 1 ≤ b := by have := hb.1; omega
    have hz : (b == 0) = false := by rw [beq_eq_false_iff_ne]; exact h
    have hq := udiv_b ha (show 0 < b by omega)
    have hc := @uceil_b a b ha (by omega)
    have hu : uceil a b = if a % b = 0 then a / b else a / b + 1 := if_neg h
    rw [hu]
    obtain ⟨ha1, ha2⟩ := ha
    obtain ⟨hq1, hq2⟩ := hq
    by_cases hm : a % b = 0
    · rw [if_pos hm]
      have hz2 : (a % b == 0) = true := by rw [beq_iff_eq]; exact hm
      clear hm hc hu
      go_enter Try.func30, Try.ntmps30
      go_wp2
      go_ret
      exact ⟨rfl, rfl⟩
    · rw [if_neg hm]
      have hz2 : (a % b == 0) = false := by rw [beq_eq_false_iff_ne]; exact hm
      have hc' := hc hm
      clear hm hc hu
      go_enter Try.func30, Try.ntmps30
      go_wp2
      go_ret
      exact ⟨rfl, rfl⟩

theorem r2Ceil (a b : Int) (ha : U a) (hb : U b) (w : World) :
    Calls Try.prog 48 #[.int .u64 a, .int .u64 b] w fun e w' => e = .returned (.int .u64 (uceil a b)) ∧ w = w' := by
  by_cases h : b = 0
  · subst h
    go_enter Try.func48, Try.ntmps48
    go_wp2
    go_ret
    exact ⟨ret_u64 (by unfold uceil; simp), rfl⟩
  · have h' : 1 ≤ b := by have := hb.1; omega
    have hz : (b == 0) = false := by rw [beq_eq_false_iff_ne]; exact h
    have hq := udiv_b ha (show 0 < b by omega)
    have hc := @uceil_b a b ha (by omega)
    have hu : uceil a b = if a % b = 0 then a / b else a / b + 1 := if_neg h
    have hmn := Int.emod_nonneg a h
    rw [hu]
    obtain ⟨ha1, ha2⟩ := ha
    obtain ⟨hq1, hq2⟩ := hq
    by_cases hm : a % b = 0
    · rw [if_pos hm]
      have hz2 : ¬ 0 < a % b := by omega
      clear hm hc hu
      go_enter Try.func48, Try.ntmps48
      go_wp2
      go_ret
      exact ⟨rfl, rfl⟩
    · rw [if_neg hm]
      have hz2 : 0 < a % b := by omega
      have hc' := hc hm
      clear hm hc hu
      go_enter Try.func48, Try.ntmps48
      go_wp2
      go_ret
      exact ⟨rfl, rfl⟩

theorem nClamp (t : Int) (h1 : -9223372036854775808 ≤ t) (h2 : t ≤ 9223372036854775807) (w : World) :
    Calls Try.prog 22 #[.int .i64 t] w fun e w' => e = .returned (.int .u64 (max t 0)) ∧ w = w' := by
  go_enter Try.func22, Try.ntmps22
  go_wp2
  go_ret
  exact ⟨rfl, rfl⟩

theorem r2Clamp (t : Int) (h1 : -9223372036854775808 ≤ t) (h2 : t ≤ 9223372036854775807) (w : World) :
    Calls Try.prog 33 #[.int .i64 t] w fun e w' => e = .returned (.int .u64 (max t 0)) ∧ w = w' := by
  by_cases h : t < 0
  · go_enter Try.func33, Try.ntmps33
    go_wp2
    go_ret
    exact ⟨ret_u64 (by omega), rfl⟩
  · go_enter Try.func33, Try.ntmps33
    go_wp2
    go_ret
    exact ⟨ret_u64 (by omega), rfl⟩

end Go.Proofs.Ytnicanbkocphlaa
