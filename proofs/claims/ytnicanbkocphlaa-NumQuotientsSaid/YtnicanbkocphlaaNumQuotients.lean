/- NumQuotients: the walk. -/
import Derived.Test.YtnicanbkocphlaaNumKnown
set_option linter.unusedVariables false
namespace Go.Proofs.Ytnicanbkocphlaa
open Go.RowKit

attribute [local go_sem] ite_min ite_max

theorem quot_plain {a b : Int} (ha : U a) (hb : 0 < b) (hb' : b ≤ 18446744073709551615) :
    a / b * b ≤ a ∧ a - a / b * b < b ∧ 0 ≤ a / b * b ∧ (a % b = 0 ↔ a / b * b = a) := by
  have e := Int.mul_ediv_add_emod a b
  have e' : b * (a / b) = a / b * b := Int.mul_comm _ _
  have h0 := Int.emod_nonneg a (show b ≠ 0 by omega)
  have h1 := Int.emod_lt_of_pos a hb
  have h2 : 0 ≤ a / b * b := Int.mul_nonneg (Int.ediv_nonneg ha.1 (by omega)) (by omega)
  refine ⟨?_, ?_, h2, ?_⟩ <;> omega

theorem umul_ge {u b a : Int} (h0 : 0 ≤ u * b) (h : a ≤ u * b) (ha : a ≤ 18446744073709551615) : a ≤ umul u b := by
  unfold umul mulH mulL
  split <;> omega

set_option maxHeartbeats 1000000 in
theorem nQuotients (a b : Int) (ha : U a) (hb : U b) (w : World) :
    Calls Try.prog 13 #[.int .u64 a, .int .u64 b] w fun e w' => e = .returned (.bool true) ∧ Ext w w' := by
  by_cases h : b = 0
  · subst h
    have e1 := Lib.hid (show udiv a 0 = 18446744073709551615 from if_pos rfl)
    have e2 := Lib.hid (show uceil a 0 = 18446744073709551615 from if_pos rfl)
    go_enter Try.func13, Try.ntmps13
    go_wp2_with fail
    refine (nKnown _).mono ?_
    rintro e w1 ⟨rfl, hb1⟩
    go_wp2_with fail
    refine (nDiv a 0 ha hb _).mono ?_
    rintro e w2 ⟨rfl, rfl⟩
    rw [e1.out]
    go_wp2_with fail
    refine (nCeil a 0 ha hb _).mono ?_
    rintro e w2 ⟨rfl, rfl⟩
    rw [e2.out]
    go_wp2
    go_ret
    exact ⟨rfl, by repeat (first | exact Ext.refl _ | assumption | apply Ext.drew | apply Ext.alloc | (refine Ext.setCell ?_ (by simp <;> omega) _) | refine Ext.trans ?_ (by assumption))⟩
  · have hbp : 0 < b := by have := hb.1; omega
    have e1 : udiv a b = a / b := if_neg h
    have e2 : uceil a b = if a % b = 0 then a / b else a / b + 1 := if_neg h
    obtain ⟨p1, p2, p3, p4⟩ := quot_plain ha hbp hb.2
    obtain ⟨q1, q2⟩ := udiv_b ha hbp
    have hc := @uceil_b a b ha hbp
    obtain ⟨d, ed⟩ : ∃ d, a / b = d := ⟨_, rfl⟩
    rw [ed] at e1 e2 p1 p2 p3 p4 q1 q2 hc
    have hz : (b == 0) = false := by rw [beq_eq_false_iff_ne]; exact h
    have HE := Lib.hid e1
    have ha' := ha
    have hb2 := hb.2
    obtain ⟨ha1, ha2⟩ := ha
    by_cases hm : a % b = 0
    · have hdb := p4.1 hm
      have e3 : uceil a b = d := by rw [e2, if_pos hm]
      have hmul := umul_ge p3 (show a ≤ d * b by omega) ha2
      obtain ⟨m, em⟩ : ∃ m, umul d b = m := ⟨_, rfl⟩
      rw [em] at hmul
      have H := Lib.hid (And.intro e3 em)
      have heq : (d * b == a) = true := by rw [beq_iff_eq]; exact hdb
      clear e1 e2 e3 em p4 hm hc ed
      have hdb' := Lib.hid hdb
      clear hdb
      go_enter Try.func13, Try.ntmps13
      go_wp2_with fail
      refine (nDiv a b ha' hb _).mono ?_
      rintro e w2 ⟨rfl, rfl⟩
      rw [HE.out]
      go_wp2_with fail
      refine (nCeil a b ha' hb _).mono ?_
      rintro e w2 ⟨rfl, rfl⟩
      rw [H.out.1]
      go_wp2_with fail
      refine (nKnown _).mono ?_
      rintro e w1 ⟨rfl, hb1⟩
      go_wp2_with fail
      refine (nMul d b (by unfold U; omega) hb _).mono ?_
      rintro e w2 ⟨rfl, hx2⟩
      rw [H.out.2]
      go_wp2
      go_ret
      exact ⟨rfl, by repeat (first | exact Ext.refl _ | assumption | apply Ext.drew | apply Ext.alloc | (refine Ext.setCell ?_ (by simp <;> omega) _) | refine Ext.trans ?_ (by assumption))⟩
    · have hdb : ¬ d * b = a := fun e => hm (p4.2 e)
      have e3 : uceil a b = d + 1 := by rw [e2, if_neg hm]
      have hq := hc hm
      have e4 : (d + 1) * b = d * b + b := by rw [Int.add_mul, Int.one_mul]
      have hmul := umul_ge (u := d + 1) (b := b) (a := a) (by rw [e4]; omega) (by rw [e4]; omega) ha2
      obtain ⟨m, em⟩ : ∃ m, umul (d + 1) b = m := ⟨_, rfl⟩
      rw [em] at hmul
      have H := Lib.hid (And.intro e3 em)
      have heq : (d * b == a) = false := by rw [beq_eq_false_iff_ne]; exact hdb
      have hdd : (d + 1 == d) = false := by rw [beq_eq_false_iff_ne]; omega
      clear e1 e2 e3 em p4 hm hc ed e4
      have hdb' := Lib.hid hdb
      clear hdb
      go_enter Try.func13, Try.ntmps13
      go_wp2_with fail
      refine (nDiv a b ha' hb _).mono ?_
      rintro e w2 ⟨rfl, rfl⟩
      rw [HE.out]
      go_wp2_with fail
      refine (nCeil a b ha' hb _).mono ?_
      rintro e w2 ⟨rfl, rfl⟩
      rw [H.out.1]
      go_wp2_with fail
      refine (nKnown _).mono ?_
      rintro e w1 ⟨rfl, hb1⟩
      go_wp2_with fail
      refine (nMul (d + 1) b (by unfold U; omega) hb _).mono ?_
      rintro e w2 ⟨rfl, hx2⟩
      rw [H.out.2]
      go_wp2
      go_ret
      exact ⟨rfl, by repeat (first | exact Ext.refl _ | assumption | apply Ext.drew | apply Ext.alloc | (refine Ext.setCell ?_ (by simp <;> omega) _) | refine Ext.trans ?_ (by assumption))⟩

end Go.Proofs.Ytnicanbkocphlaa
