/- Contracts of the layer num: products, quotients, times; and of its reference. -/
import Derived.Test.YtfabgfenelaheaaWideRefB
set_option linter.unusedVariables false
namespace Go.Proofs.Ytfabgfenelaheaa
open Go.RowKit

attribute [local go_sem] ite_min ite_max

def umul (a b : Int) : Int := if mulH a b = 0 then mulL a b else 18446744073709551615
def udiv (a b : Int) : Int := if b = 0 then 18446744073709551615 else a / b
def uceil (a b : Int) : Int := if b = 0 then 18446744073709551615 else if a % b = 0 then a / b else a / b + 1

theorem udiv_b {a b : Int} (ha : U a) (hb : 0 < b) : 0 ≤ a / b ∧ a / b ≤ 18446744073709551615 :=
  ⟨Int.ediv_nonneg ha.1 (by omega), Int.le_trans (Int.ediv_le_self _ ha.1) ha.2⟩

theorem ediv_two {a b : Int} (ha : 0 ≤ a) (hb : 2 ≤ b) : a / b ≤ a / 2 := by
  have h1 : a / b * b ≤ a := by rw [Int.mul_comm]; have := Int.mul_ediv_add_emod a b; have := Int.emod_nonneg a (show b ≠ 0 by omega); omega
  have h2 : 0 ≤ a / b := Int.ediv_nonneg ha (by omega)
  have h3 : a / b * 2 ≤ a / b * b := Int.mul_le_mul_of_nonneg_left hb h2
  omega

theorem uceil_b {a b : Int} (ha : U a) (hb : 0 < b) (h : a % b ≠ 0) : a / b ≤ 9223372036854775807 := by
  have hb2 : 2 ≤ b := by
    rcases Int.lt_or_le b 2 with h1 | h1
    · have : b = 1 := by omega
      subst this; omega
    · exact h1
  have := ediv_two ha.1 hb2
  have := ha.2
  omega

theorem r2Mul (a b : Int) (ha : U a) (hb : U b) (w : World) :
    Calls Try.prog 34 #[.int .u64 a, .int .u64 b] w fun e w' => e = .returned (.int .u64 (umul a b)) ∧ w = w' := by
  have hH := mulH_U ha hb
  obtain ⟨H, eH⟩ : ∃ x, mulH a b = x := ⟨_, rfl⟩
  obtain ⟨L, eL⟩ : ∃ x, mulL a b = x := ⟨_, rfl⟩
  have hu : umul a b = if H = 0 then L else 18446744073709551615 := by unfold umul; rw [eH, eL]
  rw [hu]
  rw [eH] at hH
  have HH := Lib.hid (And.intro eH eL)
  clear eH eL hu
  have hH0 := hH.1
  go_enter Try.func34, Try.ntmps34
  go_wp2_with fail
  refine (r1Mul a b ha hb _).mono ?_
  rintro e w1 ⟨rfl, rfl⟩
  rw [HH.out.1, HH.out.2]
  by_cases h : H = 0
  · subst h
    go_wp2
    go_ret
    exact ⟨rfl, rfl⟩
  · have h' : 0 < H := by omega
    go_wp2
    go_ret
    exact ⟨rfl, rfl⟩

theorem nDiv (a b : Int) (ha : U a) (hb : U b) (w : World) :
    Calls Try.prog 57 #[.int .u64 a, .int .u64 b] w fun e w' => e = .returned (.int .u64 (udiv a b)) ∧ w = w' := by
  obtain ⟨ha1, ha2⟩ := ha
  obtain ⟨hb1, hb2⟩ := hb
  by_cases h : b = 0
  · subst h
    go_enter Try.func57, Try.ntmps57
    go_wp2
    go_ret
    exact ⟨ret_u64 (by unfold udiv; simp), rfl⟩
  · have h' : 1 ≤ b := by omega
    have hq := (b : Int) |> fun _ => h'
    have hz : (b == 0) = false := by rw [beq_eq_false_iff_ne]; exact h
    clear hq
    go_enter Try.func57, Try.ntmps57
    go_wp2
    go_ret
    exact ⟨ret_u64 (by unfold udiv; rw [if_neg h]), rfl⟩

theorem r2Div (a b : Int) (ha : U a) (hb : U b) (w : World) :
    Calls Try.prog 89 #[.int .u64 a, .int .u64 b] w fun e w' => e = .returned (.int .u64 (udiv a b)) ∧ w = w' := by
  obtain ⟨ha1, ha2⟩ := ha
  obtain ⟨hb1, hb2⟩ := hb
  by_cases h : b = 0
  · subst h
    go_enter Try.func89, Try.ntmps89
    go_wp2
    go_ret
    exact ⟨ret_u64 (by unfold udiv; simp), rfl⟩
  · have h' : 1 ≤ b := by omega
    have hz : (b == 0) = false := by rw [beq_eq_false_iff_ne]; exact h
    go_enter Try.func89, Try.ntmps89
    go_wp2
    go_ret
    exact ⟨ret_u64 (by unfold udiv; rw [if_neg h]), rfl⟩

end Go.Proofs.Ytfabgfenelaheaa
