/- Contracts of wide.MulDiv and of the reference of the layer wide. -/
import Derived.Test.YtnicanbkocphlaaWideDiv
set_option linter.unusedVariables false
namespace Go.Proofs.Ytnicanbkocphlaa
open Go.RowKit

attribute [local go_sem] ite_min ite_max

theorem wDiv (h l d : Int) (hh : U h) (hl : U l) (hd : U d) (w : World) :
    Calls Try.prog 18 #[.int .u64 h, .int .u64 l, .int .u64 d] w fun e w' => e = .returned (.tuple #[.int .u64 (divQ h l d), .int .u64 (divR h l d), .bool (divOk h d)]) ∧ w = w' := by
  by_cases hn : h < d
  · exact wDiv_yes h l d hh hl hd hn w
  · exact wDiv_no h l d hh hl hd (by omega) w

theorem wMulDiv (a b d : Int) (ha : U a) (hb : U b) (hd : U d) (w : World) :
    Calls Try.prog 23 #[.int .u64 a, .int .u64 b, .int .u64 d] w fun e w' => e = .returned (.tuple #[.int .u64 (mdQ a b d), .bool (mdOk a b d)]) ∧ Ext w w' := by
  have hH := mulH_U ha hb
  have hL := mulL_U ha hb
  go_enter Try.func23, Try.ntmps23
  go_wp2_with fail
  refine (wMul a b ha hb _).mono ?_
  rintro e1 w1 ⟨rfl, hb1⟩
  go_wp2_with fail
  refine (wDiv _ _ d hH hL hd _).mono ?_
  rintro e2 w2 ⟨rfl, rfl⟩
  go_wp2_with fail
  go_ret2
  exact ⟨rfl, hb1⟩

set_option maxHeartbeats 1000000 in
theorem r1Div (h l d : Int) (hh : U h) (hl : U l) (hd : U d) (w : World) :
    Calls Try.prog 38 #[.int .u64 h, .int .u64 l, .int .u64 d] w fun e w' => e = .returned (.tuple #[.int .u64 (divQ h l d), .int .u64 (divR h l d), .bool (divOk h d)]) ∧ w = w' := by
  by_cases hn : h < d
  · have e1 : divQ h l d = dN (rBit l) h 64 / d := by rw [rN_end hl.1 hl.2]; exact if_pos hn
    have e2 : divR h l d = dN (rBit l) h 64 % d := by rw [rN_end hl.1 hl.2]; exact if_pos hn
    have e3 : divOk h d = true := decide_eq_true hn
    rw [e1, e2, e3]
    clear e1 e2 e3
    have hR := fun k hk => dN_round (d := d) (rBit_01 l) hh.1 hn k hk
    have hRound := Lib.hid hR
    clear hR
    obtain ⟨hd1, hd2⟩ := hd
    obtain ⟨hl1, hl2⟩ := hl
    have hh1 := hh.1
    go_enter Try.func38, Try.ntmps38
    go_wp2
    go_loop [9, 10, 11] (fun s9 s10 s11 => ∃ k : Nat, k ≤ 64 ∧ s11 = .int .i64 (63 - (k : Int)) ∧ s10 = .int .u64 (dN (rBit l) h k % d) ∧ s9 = .int .u64 (dN (rBit l) h k / d)) (fun _ _ i => (intOf i + 1).toNat)
    case atStart => exact ⟨0, by omega, rfl, by rw [show dN (rBit l) h 0 = h from rfl, Int.emod_eq_of_lt hh1 hn], by rw [show dN (rBit l) h 0 = h from rfl, Int.ediv_eq_zero_of_lt hh1 hn]⟩
    case round =>
      obtain ⟨k, hk, rfl, rfl, rfl⟩ := hrel
      by_cases hlt : k < 64
      · obtain ⟨⟨r0, r1⟩, ⟨q0, q1⟩, hA, hB⟩ := hRound.out k hlt
        have hb := rBit_01 l k
        have eb : rBit l k = l / 2 ^ (63 - k) % 2 := rfl
        obtain ⟨r, er⟩ : ∃ r, dN (rBit l) h k % d = r := ⟨_, rfl⟩
        obtain ⟨q, eq⟩ : ∃ q, dN (rBit l) h k / d = q := ⟨_, rfl⟩
        obtain ⟨b, hbe⟩ : ∃ b, rBit l k = b := ⟨_, rfl⟩
        rw [er] at r0 r1 hA hB ⊢
        rw [eq] at q0 q1 hA hB ⊢
        rw [hbe] at hA hB hb eb
        have hp : (0 : Int) < 2 ^ (63 - k) := Int.pow_pos (by omega)
        have hX0 : 0 ≤ l / 2 ^ (63 - k) := Int.ediv_nonneg hl1 (Int.le_of_lt hp)
        have hX1 : l / 2 ^ (63 - k) ≤ 18446744073709551615 := Int.le_trans (Int.ediv_le_self _ hl1) hl2
        obtain ⟨X, eX⟩ : ∃ X, l / 2 ^ (63 - k) = X := ⟨_, rfl⟩
        rw [eX] at hX0 hX1 eb
        have hXb : X % 2 = b := eb.symm
        have hb0 : 0 ≤ b := by omega
        have hb1 : b ≤ 1 := by omega
        have HA := Lib.hid hA; have HB := Lib.hid hB
        clear hA hB er eq eb hbe hp
        by_cases ho : r ≤ 9223372036854775807
        · have hz : (r / 9223372036854775808 == 1) = false := by rw [beq_eq_false_iff_ne]; omega
          by_cases hc : r * 2 + b < d
          · have hfin := HA.out (by omega)
            have HF := Lib.hid hfin
            clear hfin HA HB hb
            go_wp2
            go_round
            case rel => exact ⟨k + 1, by omega, by congr 1; omega, by rw [HF.out.1, Int.mul_comm], by rw [HF.out.2, Int.mul_comm]⟩
            case measure => simp [intOf]; omega
          · have hfin := HB.out (by omega)
            have HF := Lib.hid hfin
            clear hfin HA HB hb
            go_wp2
            go_round
            case rel => exact ⟨k + 1, by omega, by congr 1; omega, by rw [HF.out.1, Int.mul_comm], by rw [HF.out.2, Int.mul_comm]⟩
            case measure => simp [intOf]; omega
        · have hz : (r / 9223372036854775808 == 1) = true := by rw [beq_iff_eq]; omega
          have hw := wrap_u64_hi (r * 2) (by omega) (by omega)
          obtain ⟨t1, et1⟩ : ∃ x, IntKind.u64.wrap (r * 2) = x := ⟨_, rfl⟩
          rw [et1] at hw
          have t10 : 0 ≤ t1 := by omega
          have t11 : t1 ≤ 18446744073709551614 := by omega
          have hwt := wrap_u64_lo (t1 + b - d) (by omega) (by omega)
          obtain ⟨t2, et2⟩ : ∃ x, IntKind.u64.wrap (t1 + b - d) = x := ⟨_, rfl⟩
          rw [et2] at hwt
          have hfin := HB.out (by omega)
          have HF := Lib.hid hfin
          have HT := Lib.hid (show t2 = 2 * r + b - d by omega)
          clear hfin HA HB hb hw hwt
          go_wp2
          go_round
          case rel => exact ⟨k + 1, by omega, by congr 1; omega, by rw [HF.out.1, ← HT.out], by rw [HF.out.2, Int.mul_comm]⟩
          case measure => simp [intOf]; omega
      · obtain rfl : k = 64 := by omega
        go_wp2
        go_ret3
        exact ⟨rfl, rfl⟩
  · have e1 : divQ h l d = 0 := if_neg hn
    have e2 : divR h l d = 0 := if_neg hn
    have e3 : divOk h d = false := decide_eq_false hn
    rw [e1, e2, e3]
    go_enter Try.func38, Try.ntmps38
    go_wp2
    go_ret3
    exact ⟨rfl, rfl⟩

theorem r1Less (ah al bh bl : Int) (hah : U ah) (hal : U al) (hbh : U bh) (hbl : U bl) (w : World) :
    Calls Try.prog 40 #[.int .u64 ah, .int .u64 al, .int .u64 bh, .int .u64 bl] w fun e w' =>
      e = .returned (.bool (less ah al bh bl)) ∧ w = w' := by
  by_cases h1 : ah = bh
  · subst h1
    go_enter Try.func40, Try.ntmps40
    go_wp2
    go_ret
    exact ⟨ret_bool (by unfold less; simp), rfl⟩
  · by_cases h2 : ah < bh
    · go_enter Try.func40, Try.ntmps40
      go_wp2
      go_ret
      exact ⟨ret_bool (by unfold less; simp [h1, h2]), rfl⟩
    · have h3 : (ah == bh) = false := by rw [beq_eq_false_iff_ne]; exact h1
      go_enter Try.func40, Try.ntmps40
      go_wp2
      go_ret
      exact ⟨ret_bool (by unfold less; simp [h1]; omega), rfl⟩

end Go.Proofs.Ytnicanbkocphlaa
