/- Contracts of wide.Div, wide.MulDiv. -/
import Derived.Test.YtnicanbkocphlaaWide
import Derived.Test.YtnicanbkocphlaaDivSpec
set_option linter.unusedVariables false
namespace Go.Proofs.Ytnicanbkocphlaa
open Go.RowKit

attribute [local go_sem] ite_min ite_max

theorem or_bit (t b : Int) (ht : 0 ≤ t) (ht' : t ≤ 9223372036854775807) (hb : b = 0 ∨ b = 1) : bits .or .u64 (t * 2) b = 2 * t + b := by
  rw [u64_or _ _ (by omega) (by omega) (by omega) (by omega)]
  have e : (t * 2).toNat = t.toNat <<< 1 := by rw [Nat.shiftLeft_eq]; omega
  rw [e, ← Nat.shiftLeft_add_eq_or_of_lt (by omega : b.toNat < 2 ^ 1)]
  rw [Nat.shiftLeft_eq]; omega

theorem wDiv_no (h l d : Int) (hh : U h) (hl : U l) (hd : U d) (hn : d ≤ h) (w : World) :
    Calls Try.prog 18 #[.int .u64 h, .int .u64 l, .int .u64 d] w fun e w' => e = .returned (.tuple #[.int .u64 (divQ h l d), .int .u64 (divR h l d), .bool (divOk h d)]) ∧ w = w' := by
  have hx : ¬ h < d := by omega
  have e1 : divQ h l d = 0 := if_neg hx
  have e2 : divR h l d = 0 := if_neg hx
  have e3 : divOk h d = false := decide_eq_false hx
  rw [e1, e2, e3]
  go_enter Try.func18, Try.ntmps18
  go_wp2
  go_ret3
  exact ⟨rfl, rfl⟩

set_option maxHeartbeats 1000000 in
theorem wDiv_yes (h l d : Int) (hh : U h) (hl : U l) (hd : U d) (hn : h < d) (w : World) :
    Calls Try.prog 18 #[.int .u64 h, .int .u64 l, .int .u64 d] w fun e w' => e = .returned (.tuple #[.int .u64 (divQ h l d), .int .u64 (divR h l d), .bool (divOk h d)]) ∧ w = w' := by
  have e1 : divQ h l d = dN (dBit l) h 64 / d := by rw [dN_end hl.1 hl.2]; exact if_pos hn
  have e2 : divR h l d = dN (dBit l) h 64 % d := by rw [dN_end hl.1 hl.2]; exact if_pos hn
  have e3 : divOk h d = true := decide_eq_true hn
  rw [e1, e2, e3]
  clear e1 e2 e3
  have hR := fun k hk => dN_round (d := d) (dBit_01 hl.1 hl.2) hh.1 hn k hk
  have hL := fun k => dL_U hl.1 hl.2 k
  have hRound := Lib.hid hR
  have hLow := Lib.hid hL
  clear hR hL
  obtain ⟨hd1, hd2⟩ := hd
  go_enter Try.func18, Try.ntmps18
  go_wp2
  go_loop [0, 1, 9, 14] (fun s0 s1 s9 s14 => ∃ k : Nat, k ≤ 64 ∧ s14 = .int .i64 k ∧ s0 = .int .u64 (dN (dBit l) h k % d) ∧ s1 = .int .u64 (dL l k) ∧ s9 = .int .u64 (dN (dBit l) h k / d)) (fun _ _ _ i => 64 - (intOf i).toNat)
  case atStart => exact ⟨0, by omega, rfl, by rw [show dN (dBit l) h 0 = h from rfl, Int.emod_eq_of_lt hh.1 hn], rfl, by rw [show dN (dBit l) h 0 = h from rfl, Int.ediv_eq_zero_of_lt hh.1 hn]⟩
  case round =>
    obtain ⟨k, hk, rfl, rfl, rfl, rfl⟩ := hrel
    by_cases hlt : k < 64
    · obtain ⟨⟨r0, r1⟩, ⟨q0, q1⟩, hA, hB⟩ := hRound.out k hlt
      obtain ⟨l0, l1⟩ := hLow.out k
      have eL : dL l (k + 1) = 2 * dL l k % 18446744073709551616 := rfl
      have eb : dBit l k = dL l k / 9223372036854775808 := rfl
      rw [eb] at hA hB
      clear eb
      obtain ⟨r, er⟩ : ∃ r, dN (dBit l) h k % d = r := ⟨_, rfl⟩
      obtain ⟨q, eq⟩ : ∃ q, dN (dBit l) h k / d = q := ⟨_, rfl⟩
      obtain ⟨L, el⟩ : ∃ L, dL l k = L := ⟨_, rfl⟩
      rw [er] at r0 r1 hA hB ⊢
      rw [eq] at q0 q1 hA hB ⊢
      rw [el] at l0 l1 hA hB eL ⊢
      have HA := Lib.hid hA; have HB := Lib.hid hB; have HL := Lib.hid eL
      clear hA hB eL er eq el
      obtain ⟨b, hbe⟩ : ∃ b, L / 9223372036854775808 = b := ⟨_, rfl⟩
      have hb : b = 0 ∨ b = 1 := by omega
      have hb0 : 0 ≤ b := by omega
      have hb1 : b ≤ 1 := by omega
      have hq := or_bit q 1 q0 q1 (Or.inr rfl)
      obtain ⟨q2, eq2⟩ : ∃ x, bits .or .u64 (q * 2) 1 = x := ⟨_, rfl⟩
      rw [eq2] at hq
      have HQ := Lib.hid hq
      have hwl : IntKind.u64.wrap (L * 2) = L * 2 % 18446744073709551616 := by rw [IntKind.wrap_u64]
      obtain ⟨L2, eL2⟩ : ∃ x, IntKind.u64.wrap (L * 2) = x := ⟨_, rfl⟩
      rw [eL2] at hwl
      have HWL := Lib.hid hwl
      have hL2 : 0 ≤ L2 ∧ L2 ≤ 18446744073709551615 := by omega
      clear hq hwl
      rw [hbe] at HA HB
      by_cases ho : r ≤ 9223372036854775807
      · have hor := or_bit r b r0 ho hb
        have hz : (r / 9223372036854775808 == 1) = false := by rw [beq_eq_false_iff_ne]; omega
        obtain ⟨t, et⟩ : ∃ x, bits .or .u64 (r * 2) b = x := ⟨_, rfl⟩
        rw [et] at hor
        have HOR := Lib.hid hor
        have ht0 : 0 ≤ t := by omega
        have ht1 : t ≤ 18446744073709551615 := by omega
        by_cases hc : t < d
        · have hfin := HA.out (by omega)
          have HF := Lib.hid hfin
          clear hfin HA HB hor hb
          go_wp2
          go_round
          case rel => exact ⟨k + 1, by omega, by go_num, by rw [HF.out.1, ← HOR.out], by rw [HL.out, HWL.out, Int.mul_comm], by rw [HF.out.2, Int.mul_comm]⟩
          case measure => simp [intOf]; omega
        · have hfin := HB.out (by omega)
          have HF := Lib.hid hfin
          clear hfin HA HB hor hb
          go_wp2
          go_round
          case rel => exact ⟨k + 1, by omega, by go_num, by rw [HF.out.1, ← HOR.out], by rw [HL.out, HWL.out, Int.mul_comm], by rw [HF.out.2, HQ.out]⟩
          case measure => simp [intOf]; omega
      · have hwr : IntKind.u64.wrap (r * 2) = (r - 9223372036854775808) * 2 := by rw [wrap_u64_hi (r * 2) (by omega) (by omega)]; omega
        have hor := or_bit (r - 9223372036854775808) b (by omega) (by omega) hb
        rw [← hwr] at hor
        have hz : (r / 9223372036854775808 == 1) = true := by rw [beq_iff_eq]; omega
        obtain ⟨t, et⟩ : ∃ x, bits .or .u64 (IntKind.u64.wrap (r * 2)) b = x := ⟨_, rfl⟩
        rw [et] at hor
        have ht0 : 0 ≤ t := by omega
        have hwt := wrap_u64_lo (t - d) (by omega) (by omega)
        obtain ⟨t2, et2⟩ : ∃ x, IntKind.u64.wrap (t - d) = x := ⟨_, rfl⟩
        rw [et2] at hwt
        have hfin := HB.out (by omega)
        have HF := Lib.hid hfin
        have HT := Lib.hid (show t2 = 2 * r + b - d by omega)
        clear hfin HA HB hor hb hwr hwt
        go_wp2
        go_round
        case rel => exact ⟨k + 1, by omega, by go_num, by rw [HF.out.1, ← HT.out], by rw [HL.out, HWL.out, Int.mul_comm], by rw [HF.out.2, HQ.out]⟩
        case measure => simp [intOf]; omega
    · obtain rfl : k = 64 := by omega
      go_wp2
      go_ret3
      exact ⟨rfl, rfl⟩

end Go.Proofs.Ytnicanbkocphlaa
