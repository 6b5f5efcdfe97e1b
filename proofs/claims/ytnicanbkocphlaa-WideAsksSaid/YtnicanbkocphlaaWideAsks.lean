/- WideAsks: the walk. -/
import Derived.Test.YtnicanbkocphlaaWideRefB
import Derived.Test.YtnicanbkocphlaaWideKnown
set_option linter.unusedVariables false
namespace Go.Proofs.Ytnicanbkocphlaa
open Go.RowKit

attribute [local go_sem] ite_min ite_max

set_option maxHeartbeats 2000000 in
theorem wAsks (a b c d : Int) (ha : U a) (hb : U b) (hc : U c) (hd : U d) (w : World) :
    Calls Try.prog 26 #[.int .u64 a, .int .u64 b, .int .u64 c, .int .u64 d] w fun e w' => e = .returned (.bool true) ∧ Ext w w' := by
  go_enter Try.func26, Try.ntmps26
  go_wp2_with fail
  refine (wMul a b ha hb _).mono ?_
  rintro e w1 ⟨rfl, hb1⟩
  go_wp2_with fail
  refine (r1Mul a b ha hb _).mono ?_
  rintro e w2 ⟨rfl, rfl⟩
  go_wp2_with fail
  refine (wAdd a b c d ha hb hc hd _).mono ?_
  rintro e w2 ⟨rfl, rfl⟩
  go_wp2_with fail
  refine (r1Add a b c d ha hb hc hd _).mono ?_
  rintro e w2 ⟨rfl, rfl⟩
  go_wp2_with fail
  refine (wDiv a b c ha hb hc _).mono ?_
  rintro e w2 ⟨rfl, rfl⟩
  go_wp2_with fail
  refine (r1Div a b c ha hb hc _).mono ?_
  rintro e w2 ⟨rfl, rfl⟩
  go_wp2_with fail
  refine (wMulDiv a b d ha hb hd _).mono ?_
  rintro e w2 ⟨rfl, hb2⟩
  go_wp2_with fail
  refine (r1MulDiv a b d ha hb hd _).mono ?_
  rintro e w3 ⟨rfl, rfl⟩
  go_wp2_with fail
  refine (wLess a b c d ha hb hc hd _).mono ?_
  rintro e w3 ⟨rfl, rfl⟩
  go_wp2_with fail
  refine (r1Less a b c d ha hb hc hd _).mono ?_
  rintro e w3 ⟨rfl, rfl⟩
  go_wp2_with fail
  go_ret
  exact ⟨rfl, by repeat (first | exact Ext.refl _ | assumption | apply Ext.drew | apply Ext.alloc | (refine Ext.setCell ?_ (by simp <;> omega) _) | refine Ext.trans ?_ (by assumption))⟩

set_option maxHeartbeats 1000000 in
theorem wAsksAll (a b c d k : Int) (ha : U a) (hb : U b) (hc : U c) (hd : U d) (hk : 0 ≤ k ∧ k ≤ 255) (w : World) :
    Calls Try.prog 11 #[.int .u64 a, .int .u64 b, .int .u64 c, .int .u64 d, .int .u8 k] w fun e w' => e = .returned (.bool true) ∧ Ext w w' := by
  have hd1 : bits .or .u64 d 1 = ((d.toNat ||| 1 : Nat) : Int) := u64_or d 1 hd.1 (by have := hd.2; omega) (by omega) (by omega)
  have hd2 : 1 ≤ bits .or .u64 d 1 := by rw [hd1]; have := Nat.right_le_or (n := d.toNat) (m := 1); omega
  obtain ⟨D, eD⟩ : ∃ D, bits .or .u64 d 1 = D := ⟨_, rfl⟩
  rw [eD] at hd2
  clear hd1
  have ha' := ha; have hb' := hb; have hc' := hc; have hd' := hd
  obtain ⟨ha1, ha2⟩ := ha
  obtain ⟨hb1, hb2⟩ := hb
  obtain ⟨hc1, hc2⟩ := hc
  obtain ⟨hk1, hk2⟩ := hk
  go_enter Try.func11, Try.ntmps11
  go_wp2_with fail
  refine (wKnown _).mono ?_
  rintro e w1 ⟨rfl, hx1⟩
  go_wp2_with fail
  refine (wAsks a b c d ha' hb' hc' hd' _).mono ?_
  rintro e w2 ⟨rfl, hx2⟩
  go_wp2_with fail
  refine (wAsks _ b _ d (shr_U ha' _) hb' (shr_U hc' _) hd' _).mono ?_
  rintro e w3 ⟨rfl, hx3⟩
  go_wp2_with fail
  refine (wAsks a _ c _ ha' (shr_U hb' _) hc' (shr_U hd' _) _).mono ?_
  rintro e w4 ⟨rfl, hx4⟩
  go_wp2_with fail
  have hm : U (c % D) := ⟨Int.emod_nonneg _ (by omega), by have h := Int.ediv_nonneg hc1 (show (0 : Int) ≤ D by omega); have e := Int.mul_ediv_add_emod c D; have m := Int.mul_nonneg (show (0 : Int) ≤ D by omega) h; omega⟩
  refine (wAsks (c % D) a d b hm ha' hd' hb' _).mono ?_
  rintro e w5 ⟨rfl, hx5⟩
  go_wp2_with fail
  go_ret
  exact ⟨rfl, by repeat (first | exact Ext.refl _ | assumption | apply Ext.drew | apply Ext.alloc | (refine Ext.setCell ?_ (by simp <;> omega) _) | refine Ext.trans ?_ (by assumption))⟩

end Go.Proofs.Ytnicanbkocphlaa
