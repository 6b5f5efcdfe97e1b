/- Contracts of the layer num: products, quotients, times; and of its reference. -/
import Derived.Test.YtdgcgpapcbjfhaaGreatDoorJ06WideRef
set_option linter.unusedVariables false
set_option linter.unusedSimpArgs false

/- Contracts of the reference of the layer wide, more. -/
namespace Go.Proofs.YtdgcgpapcbjfhaaGreatDoor
open Go.RowKit

attribute [local go_sem] ite_min ite_max

/-- the product's upper bits, one after the other -/
def pM (a b : Int) (k : Nat) : Int := a * (b / 2 ^ (64 - k))

theorem pM_zero {a b : Int} (hb : 0 ≤ b) (hb' : b ≤ 18446744073709551615) : pM a b 0 = 0 := by
  unfold pM
  have h3 : (2 : Int) ^ (64 - 0) = 18446744073709551616 := by decide
  rw [h3, Int.ediv_eq_zero_of_lt hb (by omega), Int.mul_zero]

theorem pM_end (a b : Int) : pM a b 64 = a * b := by unfold pM; simp

theorem pM_succ {a b : Int} (k : Nat) (hk : k < 64) : pM a b (k + 1) = 2 * pM a b k + a * (b / 2 ^ (63 - k) % 2) := by
  unfold pM
  have e0 : (2 : Int) ^ (64 - k) = 2 ^ (63 - k) * 2 := by rw [← Int.pow_succ]; congr 1; omega
  have e1 : b / 2 ^ (63 - k) / 2 = b / 2 ^ (64 - k) := by
    rw [Int.ediv_ediv_of_nonneg (Int.le_of_lt (Int.pow_pos (by omega))), e0]
  have e2 : 64 - (k + 1) = 63 - k := by omega
  rw [e2, ← e1]
  generalize b / 2 ^ (63 - k) = X
  have e3 : X = 2 * (X / 2) + X % 2 := by omega
  have e4 : 2 * (a * (X / 2)) = a * (2 * (X / 2)) := by rw [← Int.mul_assoc, Int.mul_comm 2 a, Int.mul_assoc]
  rw [e4, ← Int.mul_add, ← e3]

theorem pM_bound {a b : Int} (ha : U a) (hb : U b) (k : Nat) : 0 ≤ pM a b k ∧ pM a b k ≤ 340282366920938463426481119284349108225 := by
  unfold pM
  have hp : (0 : Int) < 2 ^ (64 - k) := Int.pow_pos (by omega)
  have hx : U (b / 2 ^ (64 - k)) := shr_U hb _
  exact mul_U ha hx

theorem pM_round0 {P : Int} (h0 : 0 ≤ P) (h1 : 2 * P ≤ 340282366920938463426481119284349108225) :
    P / 18446744073709551616 * 2 + P % 18446744073709551616 / 9223372036854775808 = 2 * P / 18446744073709551616 ∧ P % 18446744073709551616 * 2 % 18446744073709551616 = 2 * P % 18446744073709551616 := by
  constructor <;> omega

theorem pM_round1 {P a : Int} (h0 : 0 ≤ P) (ha : 0 ≤ a) (ha' : a ≤ 18446744073709551615) (h1 : 2 * P + a ≤ 340282366920938463426481119284349108225) :
    (P % 18446744073709551616 * 2 % 18446744073709551616 + a ≤ 18446744073709551615 → P / 18446744073709551616 * 2 + P % 18446744073709551616 / 9223372036854775808 = (2 * P + a) / 18446744073709551616 ∧
      P % 18446744073709551616 * 2 % 18446744073709551616 + a = (2 * P + a) % 18446744073709551616) ∧
    (18446744073709551615 < P % 18446744073709551616 * 2 % 18446744073709551616 + a → P / 18446744073709551616 * 2 + P % 18446744073709551616 / 9223372036854775808 + 1 = (2 * P + a) / 18446744073709551616 ∧
      P % 18446744073709551616 * 2 % 18446744073709551616 + a - 18446744073709551616 = (2 * P + a) % 18446744073709551616) := by
  constructor <;> intro h <;> constructor <;> omega

set_option maxHeartbeats 1000000 in
theorem r1Mul (a b : Int) (ha : U a) (hb : U b) (w : World) :
    Calls Tryz.prog 109 #[.int .u64 a, .int .u64 b] w fun e w' => e = .returned (.tuple #[.int .u64 (mulH a b), .int .u64 (mulL a b)]) ∧ w = w' := by
  have e1 : mulH a b = pM a b 64 / 18446744073709551616 := by rw [pM_end]; rfl
  have e2 : mulL a b = pM a b 64 % 18446744073709551616 := by rw [pM_end]; rfl
  rw [e1, e2]
  clear e1 e2
  have hz := pM_zero (a := a) hb.1 hb.2
  have hS := fun k hk => pM_succ (a := a) (b := b) k hk
  have hB := fun k => pM_bound ha hb k
  have HS := Lib.hid hS; have HB := Lib.hid hB; have HZ := Lib.hid hz
  clear hS hB hz
  obtain ⟨ha1, ha2⟩ := ha
  obtain ⟨hb1, hb2⟩ := hb
  go_enter Tryz.func109, Tryz.ntmps109
  go_wp2
  go_loop [6, 7, 8] (fun s6 s7 s8 => ∃ k : Nat, k ≤ 64 ∧ s8 = .int .i64 (63 - (k : Int)) ∧ s6 = .int .u64 (pM a b k / 18446744073709551616) ∧ s7 = .int .u64 (pM a b k % 18446744073709551616)) (fun _ _ i => (intOf i + 1).toNat)
  case atStart => exact ⟨0, by omega, rfl, by rw [HZ.out]; rfl, by rw [HZ.out]; rfl⟩
  case round =>
    obtain ⟨k, hk, rfl, rfl, rfl⟩ := hrel
    by_cases hlt : k < 64
    · have hS := HS.out k hlt
      have hB0 := HB.out k
      have hB1 := HB.out (k + 1)
      rw [hS] at hB1
      have hp : (0 : Int) < 2 ^ (63 - k) := Int.pow_pos (by omega)
      have hX0 : 0 ≤ b / 2 ^ (63 - k) := Int.ediv_nonneg hb1 (Int.le_of_lt hp)
      have hX1 : b / 2 ^ (63 - k) ≤ 18446744073709551615 := Int.le_trans (Int.ediv_le_self _ hb1) hb2
      obtain ⟨X, eX⟩ : ∃ X, b / 2 ^ (63 - k) = X := ⟨_, rfl⟩
      rw [eX] at hX0 hX1 hS hB1
      obtain ⟨P, eP⟩ : ∃ P, pM a b k = P := ⟨_, rfl⟩
      rw [eP] at hS hB0 hB1 ⊢
      obtain ⟨H, eH⟩ : ∃ H, P / 18446744073709551616 = H := ⟨_, rfl⟩
      obtain ⟨L, eL⟩ : ∃ L, P % 18446744073709551616 = L := ⟨_, rfl⟩
      have hwl : IntKind.u64.wrap (L * 2) = L * 2 % 18446744073709551616 := by rw [IntKind.wrap_u64]
      obtain ⟨L2, eL2⟩ : ∃ x, IntKind.u64.wrap (L * 2) = x := ⟨_, rfl⟩
      rw [eL2] at hwl
      have hL0 : 0 ≤ L := by omega
      have hL1 : L ≤ 18446744073709551615 := by omega
      have hH0 : 0 ≤ H := by omega
      have hL20 : 0 ≤ L2 := by omega
      have hL21 : L2 ≤ 18446744073709551615 := by omega
      by_cases hb : X % 2 = 1
      · rw [hb, Int.mul_one] at hS hB1
        have hr := pM_round1 (P := P) (a := a) hB0.1 ha1 ha2 hB1.2
        rw [eH, eL, ← hwl] at hr
        have hH1 : H ≤ 9223372036854775807 := by omega
        have HS' := Lib.hid hS
        have hz : (X % 2 == 1) = true := by rw [beq_iff_eq]; exact hb
        by_cases hov : L2 + a ≤ 18446744073709551615
        · have hf := Lib.hid (hr.1 hov)
          rw [eH, eL]
          clear hr hS hB0 hB1 hwl eH eL hb
          go_wp2
          go_round
          case rel => exact ⟨k + 1, by omega, by congr 1; omega, by rw [HS'.out, ← hf.out.1], by rw [HS'.out, ← hf.out.2]⟩
          case measure => simp [intOf]; omega
        · have hf := hr.2 (by omega)
          have hH2 : H * 2 + L / 9223372036854775808 + 1 ≤ 18446744073709551615 := by rw [hf.1]; omega
          have hw := wrap_u64_hi (L2 + a) (by omega) (by omega)
          obtain ⟨L3, eL3⟩ : ∃ x, IntKind.u64.wrap (L2 + a) = x := ⟨_, rfl⟩
          rw [eL3] at hw
          rw [← hw] at hf
          have hL3 : L3 < L2 := by omega
          have hf := Lib.hid hf
          rw [eH, eL]
          clear hr hS hB0 hB1 hwl hw eH eL hb
          go_wp2
          go_round
          case rel => exact ⟨k + 1, by omega, by congr 1; omega, by rw [HS'.out, ← hf.out.1], by rw [HS'.out, ← hf.out.2]⟩
          case measure => simp [intOf]; omega
      · have hb0 : X % 2 = 0 := by omega
        rw [hb0, Int.mul_zero, Int.add_zero] at hS hB1
        have hr := pM_round0 (P := P) hB0.1 hB1.2
        rw [eH, eL, ← hwl] at hr
        have hH1 : H ≤ 9223372036854775807 := by omega
        have HS' := Lib.hid hS
        have hz : (X % 2 == 1) = false := by rw [beq_eq_false_iff_ne]; exact hb
        have hf := Lib.hid hr
        rw [eH, eL]
        clear hr hS hB0 hB1 hwl eH eL hb hb0
        go_wp2
        go_round
        case rel => exact ⟨k + 1, by omega, by congr 1; omega, by rw [HS'.out, ← hf.out.1], by rw [HS'.out, ← hf.out.2]⟩
        case measure => simp [intOf]; omega
    · obtain rfl : k = 64 := by omega
      go_wp2
      go_ret2
      exact ⟨rfl, rfl⟩

end Go.Proofs.YtdgcgpapcbjfhaaGreatDoor

/- Contracts of the layer num: products, quotients, times; and of its reference. -/
namespace Go.Proofs.YtdgcgpapcbjfhaaGreatDoor
open Go.RowKit

attribute [local go_sem] ite_min ite_max

def umul (a b : Int) : Int := if mulH a b = 0 then mulL a b else 18446744073709551615
def udiv (a b : Int) : Int := if b = 0 then 18446744073709551615 else a / b
def uceil (a b : Int) : Int := if b = 0 then 18446744073709551615 else if a % b = 0 then a / b else a / b + 1

theorem udiv_b {a b : Int} (ha : U a) (hb : 0 < b) : 0 ≤ a / b ∧ a / b ≤ 18446744073709551615 :=
  ⟨Int.ediv_nonneg ha.1 (by omega), Int.le_trans (Int.ediv_le_self _ ha.1) ha.2⟩

theorem ediv_two {a b : Int} (ha : 0 ≤ a) (hb : 2 ≤ b) : a / b ≤ a / 2 := by
  have h1 : a / b * b ≤ a := by rw [Int.mul_comm]; have := Int.mul_ediv_add_emod a b; have := Int.emod_nonneg a (show b ≠ 0 by omega); omega
  have h2 : 0 ≤ a / b := Int.ediv_nonneg ha (by omega)
  have h3 : a / b * 2 ≤ a / b * b := Int.mul_le_mul_of_nonneg_left hb h2
  omega

theorem uceil_b {a b : Int} (ha : U a) (hb : 0 < b) (h : a % b ≠ 0) : a / b ≤ 9223372036854775807 := by
  have hb2 : 2 ≤ b := by
    rcases Int.lt_or_le b 2 with h1 | h1
    · have : b = 1 := by omega
      subst this; omega
    · exact h1
  have := ediv_two ha.1 hb2
  have := ha.2
  omega

theorem nMul (a b : Int) (ha : U a) (hb : U b) (w : World) :
    Calls Tryz.prog 116 #[.int .u64 a, .int .u64 b] w fun e w' => e = .returned (.int .u64 (umul a b)) ∧ Ext w w' := by
  have hH := mulH_U ha hb
  obtain ⟨H, eH⟩ : ∃ x, mulH a b = x := ⟨_, rfl⟩
  obtain ⟨L, eL⟩ : ∃ x, mulL a b = x := ⟨_, rfl⟩
  have hu : umul a b = if H = 0 then L else 18446744073709551615 := by unfold umul; rw [eH, eL]
  rw [hu]
  have HH := Lib.hid (And.intro eH eL)
  clear eH eL hu
  go_enter Tryz.func116, Tryz.ntmps116
  go_wp2_with fail
  refine (wMul a b ha hb _).mono ?_
  rintro e w1 ⟨rfl, hb1⟩
  rw [HH.out.1, HH.out.2]
  by_cases h : H = 0
  · subst h
    go_wp2
    go_ret
    exact ⟨rfl, hb1⟩
  · go_wp2
    go_ret
    exact ⟨rfl, hb1⟩

theorem r2Mul (a b : Int) (ha : U a) (hb : U b) (w : World) :
    Calls Tryz.prog 74 #[.int .u64 a, .int .u64 b] w fun e w' => e = .returned (.int .u64 (umul a b)) ∧ w = w' := by
  have hH := mulH_U ha hb
  obtain ⟨H, eH⟩ : ∃ x, mulH a b = x := ⟨_, rfl⟩
  obtain ⟨L, eL⟩ : ∃ x, mulL a b = x := ⟨_, rfl⟩
  have hu : umul a b = if H = 0 then L else 18446744073709551615 := by unfold umul; rw [eH, eL]
  rw [hu]
  rw [eH] at hH
  have HH := Lib.hid (And.intro eH eL)
  clear eH eL hu
  have hH0 := hH.1
  go_enter Tryz.func74, Tryz.ntmps74
  go_wp2_with fail
  refine (r1Mul a b ha hb _).mono ?_
  rintro e w1 ⟨rfl, rfl⟩
  rw [HH.out.1, HH.out.2]
  by_cases h : H = 0
  · subst h
    go_wp2
    go_ret
    exact ⟨rfl, rfl⟩
  · have h' : 0 < H := by omega
    go_wp2
    go_ret
    exact ⟨rfl, rfl⟩

theorem nDiv (a b : Int) (ha : U a) (hb : U b) (w : World) :
    Calls Tryz.prog 166 #[.int .u64 a, .int .u64 b] w fun e w' => e = .returned (.int .u64 (udiv a b)) ∧ w = w' := by
  obtain ⟨ha1, ha2⟩ := ha
  obtain ⟨hb1, hb2⟩ := hb
  by_cases h : b = 0
  · subst h
    go_enter Tryz.func166, Tryz.ntmps166
    go_wp2
    go_ret
    exact ⟨ret_u64 (by unfold udiv; simp), rfl⟩
  · have h' : 1 ≤ b := by omega
    have hq := (b : Int) |> fun _ => h'
    have hz : (b == 0) = false := by rw [beq_eq_false_iff_ne]; exact h
    clear hq
    go_enter Tryz.func166, Tryz.ntmps166
    go_wp2
    go_ret
    exact ⟨ret_u64 (by unfold udiv; rw [if_neg h]), rfl⟩

theorem nCeil (a b : Int) (ha : U a) (hb : U b) (w : World) :
    Calls Tryz.prog 127 #[.int .u64 a, .int .u64 b] w fun e w' => e = .returned (.int .u64 (uceil a b)) ∧ w = w' := by
  by_cases h : b = 0
  · subst h
    go_enter Tryz.func127, Tryz.ntmps127
    go_wp2
    go_ret
    exact ⟨ret_u64 (by unfold uceil; simp), rfl⟩
  · have h' : 1 ≤ b := by have := hb.1; omega
    have hz : (b == 0) = false := by rw [beq_eq_false_iff_ne]; exact h
    have hq := udiv_b ha (show 0 < b by omega)
    have hc := @uceil_b a b ha (by omega)
    have hu : uceil a b = if a % b = 0 then a / b else a / b + 1 := if_neg h
    rw [hu]
    obtain ⟨ha1, ha2⟩ := ha
    obtain ⟨hq1, hq2⟩ := hq
    by_cases hm : a % b = 0
    · rw [if_pos hm]
      have hz2 : (a % b == 0) = true := by rw [beq_iff_eq]; exact hm
      clear hm hc hu
      go_enter Tryz.func127, Tryz.ntmps127
      go_wp2
      go_ret
      exact ⟨rfl, rfl⟩
    · rw [if_neg hm]
      have hz2 : (a % b == 0) = false := by rw [beq_eq_false_iff_ne]; exact hm
      have hc' := hc hm
      clear hm hc hu
      go_enter Tryz.func127, Tryz.ntmps127
      go_wp2
      go_ret
      exact ⟨rfl, rfl⟩

theorem nClamp (t : Int) (h1 : -9223372036854775808 ≤ t) (h2 : t ≤ 9223372036854775807) (w : World) :
    Calls Tryz.prog 90 #[.int .i64 t] w fun e w' => e = .returned (.int .u64 (max t 0)) ∧ w = w' := by
  go_enter Tryz.func90, Tryz.ntmps90
  go_wp2
  go_ret
  exact ⟨rfl, rfl⟩

end Go.Proofs.YtdgcgpapcbjfhaaGreatDoor
