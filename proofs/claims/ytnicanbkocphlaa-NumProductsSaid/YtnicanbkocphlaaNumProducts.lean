/- NumProducts: the walk. -/
import Derived.Test.YtnicanbkocphlaaNumKnown
set_option linter.unusedVariables false
namespace Go.Proofs.Ytnicanbkocphlaa
open Go.RowKit

attribute [local go_sem] ite_min ite_max

theorem umul_eq {a b : Int} (ha : U a) (hb : U b) : umul a b = min (a * b) 18446744073709551615 := by
  have := mul_U ha hb
  unfold umul mulH mulL
  split <;> omega

theorem umul_U {a b : Int} (ha : U a) (hb : U b) : U (umul a b) := by
  have := mul_U ha hb
  rw [umul_eq ha hb]; unfold U; omega

theorem umul_add {x y z : Int} (hx : U x) (hy : U y) (hz : U z) (h : U (y + z)) : umul x (y + z) = uadd (umul x y) (umul x z) := by
  have h1 := mul_U hx hy
  have h2 := mul_U hx hz
  rw [umul_eq hx h, umul_eq hx hy, umul_eq hx hz, Int.mul_add]
  unfold uadd; omega

theorem umul_le {x y : Int} (hx : U x) (hy : U y) (h : x ≠ 0) : y ≤ umul x y := by
  have h1 : 1 * y ≤ x * y := Int.mul_le_mul_of_nonneg_right (by have := hx.1; omega) hy.1
  have := hy.2
  rw [umul_eq hx hy]; omega

set_option maxHeartbeats 1000000 in
theorem nProducts (a b c k : Int) (ha : U a) (hb : U b) (hc : U c) (hk : 0 ≤ k ∧ k ≤ 255) (w : World) :
    Calls Try.prog 14 #[.int .u64 a, .int .u64 b, .int .u64 c, .int .u8 k] w fun e w' => e = .returned (.bool true) ∧ Ext w w' := by
  have hx := shr_U ha (k % 64).toNat
  obtain ⟨x, ex⟩ : ∃ x, a / 2 ^ (k % 64).toNat = x := ⟨_, rfl⟩
  rw [ex] at hx
  have hy : U (b / 2) := by unfold U at *; omega
  have hz : U (c / 2) := by unfold U at *; omega
  have hyz : U (b / 2 + c / 2) := by unfold U at *; omega
  have g1 := umul_add hx hy hz hyz
  have g2 : umul a 0 = 0 := by rw [umul_eq ha (by unfold U; omega), Int.mul_zero]; rfl
  have g3 : umul a 1 = a := by rw [umul_eq ha (by unfold U; omega)]; have := ha.2; omega
  have g4 : umul b a = umul a b := by rw [umul_eq ha hb, umul_eq hb ha, Int.mul_comm]
  have g5 := @umul_le x (b / 2) hx hy
  have u1 := umul_U hx hy
  have u2 := umul_U hx hz
  obtain ⟨P, eP⟩ : ∃ P, umul x (b / 2) = P := ⟨_, rfl⟩
  obtain ⟨Q, eQ⟩ : ∃ P, umul x (c / 2) = P := ⟨_, rfl⟩
  obtain ⟨R, eR⟩ : ∃ P, umul x (b / 2 + c / 2) = P := ⟨_, rfl⟩
  obtain ⟨S, eS⟩ : ∃ P, umul a b = P := ⟨_, rfl⟩
  rw [eP] at g1 g5 u1
  rw [eQ] at g1 u2
  rw [eR] at g1
  rw [eS] at g4
  have H := Lib.hid (And.intro g1 (And.intro g2 (And.intro g3 (And.intro g4 (And.intro eP (And.intro eQ (And.intro eR (And.intro eS ex))))))))
  clear g1 g2 g3 g4 eP eQ eR eS ex
  have G5 := Lib.hid g5
  clear g5
  have ha' := ha; have hb' := hb; have hc' := hc
  obtain ⟨ha1, ha2⟩ := ha
  obtain ⟨hb1, hb2⟩ := hb
  obtain ⟨hc1, hc2⟩ := hc
  obtain ⟨hk1, hk2⟩ := hk
  go_enter Try.func14, Try.ntmps14
  go_wp2_with fail
  rw [H.out.2.2.2.2.2.2.2.2]
  refine (nMul x (b / 2 + c / 2) hx hyz _).mono ?_
  rintro e w1 ⟨rfl, hx1⟩
  rw [H.out.2.2.2.2.2.2.1]
  go_wp2_with fail
  refine (nMul x (b / 2) hx hy _).mono ?_
  rintro e w2 ⟨rfl, hx2⟩
  rw [H.out.2.2.2.2.1]
  go_wp2_with fail
  refine (nMul x (c / 2) hx hz _).mono ?_
  rintro e w3 ⟨rfl, hx3⟩
  rw [H.out.2.2.2.2.2.1]
  go_wp2_with fail
  refine (nAdd2 P Q _ _ u1 u2 _ ?_ ?_).mono ?_
  · go_simp
  · go_simp
  rintro e w4 ⟨rfl, rfl⟩
  rw [← H.out.1]
  go_wp2_with fail
  refine (nKnown _).mono ?_
  rintro e w5 ⟨rfl, hx5⟩
  go_wp2_with fail
  refine (nMul a 0 ha' (by unfold U; omega) _).mono ?_
  rintro e w6 ⟨rfl, hx6⟩
  rw [H.out.2.1]
  go_wp2_with fail
  refine (nMul a 1 ha' (by unfold U; omega) _).mono ?_
  rintro e w7 ⟨rfl, hx7⟩
  rw [H.out.2.2.1]
  go_wp2_with fail
  refine (nMul a b ha' hb' _).mono ?_
  rintro e w8 ⟨rfl, hx8⟩
  rw [H.out.2.2.2.2.2.2.2.1]
  go_wp2_with fail
  refine (nMul b a hb' ha' _).mono ?_
  rintro e w9 ⟨rfl, hx9⟩
  rw [H.out.2.2.2.1]
  have HP := Lib.hid H.out.2.2.2.2.1
  clear H
  by_cases h0 : x = 0
  · subst h0
    go_wp2
    go_ret
    exact ⟨rfl, by repeat (first | exact Ext.refl _ | assumption | apply Ext.drew | apply Ext.alloc | (refine Ext.setCell ?_ (by simp <;> omega) _) | refine Ext.trans ?_ (by assumption))⟩
  · have hxz : (x == 0) = false := by rw [beq_eq_false_iff_ne]; exact h0
    have hle := G5.out h0
    go_wp2_with fail
    refine (nMul x (b / 2) hx hy _).mono ?_
    rintro e w10 ⟨rfl, hx10⟩
    rw [HP.out]
    go_wp2
    go_ret
    exact ⟨rfl, by repeat (first | exact Ext.refl _ | assumption | apply Ext.drew | apply Ext.alloc | (refine Ext.setCell ?_ (by simp <;> omega) _) | refine Ext.trans ?_ (by assumption))⟩

end Go.Proofs.Ytnicanbkocphlaa
