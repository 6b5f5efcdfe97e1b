/- WideExact: the walk. -/
import Derived.Test.YtnicanbkocphlaaWideKnown
set_option linter.unusedVariables false
namespace Go.Proofs.Ytnicanbkocphlaa
open Go.RowKit

attribute [local go_sem] ite_min ite_max

theorem mulH_lt {a b d : Int} (ha : U a) (hb : U b) (h : a * b < 18446744073709551616 * d) : mulH a b < d := by
  unfold mulH; omega

theorem md_of {a b d q : Int} (ha : U a) (hb : U b) (hd : 0 < d) (hlt : mulH a b < d) (h : a * b = q * d) : mdQ a b d = q ∧ mdOk a b d = true := by
  refine ⟨?_, decide_eq_true hlt⟩
  unfold mdQ divQ; rw [if_pos hlt, mul_split, h]
  exact Int.mul_ediv_cancel _ (by omega)

theorem md_self {a b : Int} (ha : U a) (hb : U b) (hd : 0 < b) : mdQ a b b = a ∧ mdOk a b b = true := by
  refine md_of ha hb hd (mulH_lt ha hb ?_) rfl
  have : a * b ≤ 18446744073709551615 * b := Int.mul_le_mul_of_nonneg_right ha.2 (by omega)
  omega

theorem md_zero {a b : Int} (ha : U a) (hb : U b) : mdOk a b 0 = false := by
  have := (mulH_U ha hb).1
  unfold mdOk divOk; exact decide_eq_false (by omega)

theorem md_max {a b : Int} (ha : U a) (hb : U b) (h : 0 < max a b) : mdQ a b (max a b) = min a b ∧ mdOk a b (max a b) = true := by
  by_cases hab : a ≤ b
  · rw [Int.max_eq_right hab, Int.min_eq_left hab] at *
    exact md_self ha hb h
  · have hba : b ≤ a := by omega
    rw [Int.max_eq_left hba, Int.min_eq_right hba] at *
    have := md_self hb ha h
    unfold mdQ mdOk at *
    rw [show mulH a b = mulH b a from by unfold mulH; rw [Int.mul_comm], show mulL a b = mulL b a from by unfold mulL; rw [Int.mul_comm]]
    exact this

theorem md_one {a c : Int} (ha : U a) (hc : U c) (h : mdOk a c 1 = true) : mdQ a c 1 = a * c ∧ 0 ≤ a * c ∧ a * c ≤ 18446744073709551615 := by
  have hlt : mulH a c < 1 := of_decide_eq_true h
  have h0 := (mulH_U ha hc).1
  have e := mul_split a c
  have u := mulL_U ha hc
  have hz : mulH a c = 0 := by omega
  unfold U at u
  refine ⟨?_, by omega, by omega⟩
  unfold mdQ divQ; rw [if_pos hlt, mul_split, Int.ediv_one]

theorem or_zero {a b : Int} (ha : U a) (hb : U b) : (bits .or .u64 a b == 0) = decide (a = 0 ∧ b = 0) := by
  rw [u64_or a b ha.1 (by have := ha.2; omega) hb.1 (by have := hb.2; omega)]
  rw [Bool.eq_iff_iff]
  simp only [beq_iff_eq, decide_eq_true_eq]
  have h1 := Nat.left_le_or (n := a.toNat) (m := b.toNat)
  have h2 := Nat.right_le_or (n := a.toNat) (m := b.toNat)
  have h3 := ha.1
  have h4 := hb.1
  constructor
  · intro h; omega
  · rintro ⟨rfl, rfl⟩; simp

set_option maxHeartbeats 1000000 in
theorem wExact (a b c : Int) (ha : U a) (hb : U b) (hc : U c) (w : World) :
    Calls Try.prog 7 #[.int .u64 a, .int .u64 b, .int .u64 c] w fun e w' => e = .returned (.bool true) ∧ Ext w w' := by
  have hz := md_zero ha hb
  have hor := or_zero ha hb
  have hm : U (max a b) := by unfold U at *; omega
  have hone := @md_one a c ha hc
  have hself := @md_self a b ha hb
  have hmax := @md_max a b ha hb
  obtain ⟨s, es⟩ : ∃ s, mdQ a c 1 = s := ⟨_, rfl⟩
  obtain ⟨big, ebig⟩ : ∃ s, mdOk a c 1 = s := ⟨_, rfl⟩
  rw [es, ebig] at hone
  have HZ := Lib.hid hz; have HO := Lib.hid hone; have HS := Lib.hid hself; have HM := Lib.hid hmax; have HE := Lib.hid (And.intro es ebig)
  clear hz hone hself hmax es ebig
  have ha' := ha; have hb' := hb
  obtain ⟨ha1, ha2⟩ := ha
  obtain ⟨hb1, hb2⟩ := hb
  by_cases hb0 : b = 0
  · subst hb0
    have hok : mdOk a 0 0 = false := HZ.out
    have HK := Lib.hid hok
    clear hok
    have hmx : max a 0 = a := by omega
    have hmn : min a 0 = 0 := by omega
    rw [hmx, hmn] at HM
    obtain ⟨q0, eq0⟩ : ∃ q, mdQ a 0 0 = q := ⟨_, rfl⟩
    have HQ := Lib.hid eq0
    clear eq0
    by_cases ha0 : a = 0
    · subst ha0
      have hor' : (bits .or .u64 0 0 == 0) = true := by rw [hor]; decide
      clear hor
      go_enter Try.func7, Try.ntmps7
      go_wp2_with fail
      refine (wMulDiv _ _ _ ha' hb' hb' _).mono ?_
      rintro e w1 ⟨rfl, hx1⟩
      rw [HK.out, HQ.out]
      go_wp2_with fail
      refine (wMulDiv _ _ _ ha' hb' hb' _).mono ?_
      rintro e w2 ⟨rfl, hx2⟩
      rw [HK.out, HQ.out]
      go_wp2_with fail
      refine (wMulDiv _ _ _ ha' hb' hb' _).mono ?_
      rintro e w3 ⟨rfl, hx3⟩
      rw [HK.out, HQ.out]
      go_wp2_with fail
      refine (wMulDiv _ _ _ ha' hc (by unfold U; omega) _).mono ?_
      rintro e w4 ⟨rfl, hx4⟩
      rw [HE.out.1, HE.out.2]
      go_wp2_with fail
      refine (wKnown _).mono ?_
      rintro e w5 ⟨rfl, hx5⟩
      clear HE HK
      cases big
      · go_wp2
        go_ret
        exact ⟨rfl, by repeat (first | exact Ext.refl _ | assumption | apply Ext.drew | apply Ext.alloc | (refine Ext.setCell ?_ (by simp <;> omega) _) | refine Ext.trans ?_ (by assumption))⟩
      · obtain ⟨f1, f2, f3⟩ := HO.out rfl
        subst f1
        go_wp2
        go_ret
        exact ⟨rfl, by repeat (first | exact Ext.refl _ | assumption | apply Ext.drew | apply Ext.alloc | (refine Ext.setCell ?_ (by simp <;> omega) _) | refine Ext.trans ?_ (by assumption))⟩
    · have hor' : (bits .or .u64 a 0 == 0) = false := by rw [hor]; simp [ha0]
      clear hor
      have HM' := Lib.hid (HM.out (by omega))
      go_enter Try.func7, Try.ntmps7
      go_wp2_with fail
      refine (wMulDiv _ _ _ ha' hb' hb' _).mono ?_
      rintro e w1 ⟨rfl, hx1⟩
      rw [HK.out, HQ.out]
      go_wp2_with fail
      refine (wMulDiv _ _ _ ha' hb' hb' _).mono ?_
      rintro e w2 ⟨rfl, hx2⟩
      rw [HK.out, HQ.out]
      go_wp2_with fail
      refine (wMulDiv _ _ _ ha' hb' ha' _).mono ?_
      rintro e w3 ⟨rfl, hx3⟩
      rw [HM'.out.1, HM'.out.2]
      go_wp2_with fail
      refine (wMulDiv _ _ _ ha' hc (by unfold U; omega) _).mono ?_
      rintro e w4 ⟨rfl, hx4⟩
      rw [HE.out.1, HE.out.2]
      go_wp2_with fail
      refine (wKnown _).mono ?_
      rintro e w5 ⟨rfl, hx5⟩
      clear HE HK
      cases big
      · go_wp2
        go_ret
        exact ⟨rfl, by repeat (first | exact Ext.refl _ | assumption | apply Ext.drew | apply Ext.alloc | (refine Ext.setCell ?_ (by simp <;> omega) _) | refine Ext.trans ?_ (by assumption))⟩
      · obtain ⟨f1, f2, f3⟩ := HO.out rfl
        subst f1
        go_wp2
        go_ret
        exact ⟨rfl, by repeat (first | exact Ext.refl _ | assumption | apply Ext.drew | apply Ext.alloc | (refine Ext.setCell ?_ (by simp <;> omega) _) | refine Ext.trans ?_ (by assumption))⟩
  · have hbp : 0 < b := by omega
    have HS' := Lib.hid (HS.out hbp)
    have hor' : (bits .or .u64 a b == 0) = false := by rw [hor]; simp [hb0]
    have hbq : (b == 0) = false := by rw [beq_eq_false_iff_ne]; exact hb0
    clear hor
    have HM' := Lib.hid (HM.out (by omega))
    obtain ⟨q0, eq0⟩ : ∃ q, mdQ a b 0 = q := ⟨_, rfl⟩
    have HQ := Lib.hid eq0
    clear eq0
    go_enter Try.func7, Try.ntmps7
    go_wp2_with fail
    refine (wMulDiv _ _ _ ha' hb' hb' _).mono ?_
    rintro e w1 ⟨rfl, hx1⟩
    rw [HS'.out.1, HS'.out.2]
    go_wp2_with fail
    refine (wMulDiv _ _ 0 ha' hb' (by unfold U; omega) _).mono ?_
    rintro e w2 ⟨rfl, hx2⟩
    rw [HZ.out, HQ.out]
    go_wp2_with fail
    refine (wMulDiv _ _ _ ha' hb' hm _).mono ?_
    rintro e w3 ⟨rfl, hx3⟩
    rw [HM'.out.1, HM'.out.2]
    go_wp2_with fail
    refine (wMulDiv _ _ _ ha' hc (by unfold U; omega) _).mono ?_
    rintro e w4 ⟨rfl, hx4⟩
    rw [HE.out.1, HE.out.2]
    go_wp2_with fail
    refine (wKnown _).mono ?_
    rintro e w5 ⟨rfl, hx5⟩
    clear HE
    cases big
    · go_wp2
      go_ret
      exact ⟨rfl, by repeat (first | exact Ext.refl _ | assumption | apply Ext.drew | apply Ext.alloc | (refine Ext.setCell ?_ (by simp <;> omega) _) | refine Ext.trans ?_ (by assumption))⟩
    · obtain ⟨f1, f2, f3⟩ := HO.out rfl
      subst f1
      go_wp2
      go_ret
      exact ⟨rfl, by repeat (first | exact Ext.refl _ | assumption | apply Ext.drew | apply Ext.alloc | (refine Ext.setCell ?_ (by simp <;> omega) _) | refine Ext.trans ?_ (by assumption))⟩

end Go.Proofs.Ytnicanbkocphlaa
