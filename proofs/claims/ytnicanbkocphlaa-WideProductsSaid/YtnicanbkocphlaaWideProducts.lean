/- WideProducts: the walk. -/
import Derived.Test.YtnicanbkocphlaaWideKnown
set_option linter.unusedVariables false
namespace Go.Proofs.Ytnicanbkocphlaa
open Go.RowKit

attribute [local go_sem] ite_min ite_max

theorem prod_plain {a b c : Int} (ha : U a) (hb : U b) (hc : U c) (hs : b + c ≤ 18446744073709551615) :
    addH (mulH a b) (mulL a b) (mulH a c) (mulL a c) = mulH a (b + c) ∧ addL (mulL a b) (mulL a c) = mulL a (b + c) ∧ addR (mulH a b) (mulL a b) (mulH a c) (mulL a c) = false := by
  have e1 := mul_split a b
  have e2 := mul_split a c
  have e3 := mul_split a (b + c)
  have u1 := mulL_U ha hb
  have u2 := mulH_U ha hb
  have u3 := mulL_U ha hc
  have u4 := mulH_U ha hc
  have hbc : U (b + c) := by unfold U at *; omega
  have u5 := mulL_U ha hbc
  have u6 := mulH_U ha hbc
  rw [Int.mul_add] at e3
  generalize mulH a b = X at *
  generalize mulL a b = Y at *
  generalize mulH a c = Z at *
  generalize mulL a c = V at *
  generalize mulH a (b + c) = S at *
  generalize mulL a (b + c) = T at *
  generalize a * b = P at *
  generalize a * c = Q at *
  unfold U at *
  by_cases hcy : Y + V ≤ 18446744073709551615
  · rw [addH_00 hcy (by omega), addL_0 hcy, addR_00 hcy (by omega)]
    refine ⟨?_, ?_, rfl⟩ <;> omega
  · rw [addH_10 (by omega) (by omega), addL_1 (by omega), addR_10 (by omega) (by omega)]
    refine ⟨?_, ?_, rfl⟩ <;> omega

theorem mul_one_plain {a : Int} (ha : U a) : mulH a 1 = 0 ∧ mulL a 1 = a := by
  unfold U at *; unfold mulH mulL; constructor <;> omega

set_option maxHeartbeats 1000000 in
theorem wProducts (a b c : Int) (ha : U a) (hb : U b) (hc : U c) (w : World) :
    Calls Try.prog 9 #[.int .u64 a, .int .u64 b, .int .u64 c] w fun e w' => e = .returned (.bool true) ∧ Ext w w' := by
  have hsum : U (IntKind.u64.wrap (b + c)) := by rw [IntKind.wrap_u64]; unfold U; omega
  have hplain := @prod_plain a b c ha hb hc
  have hone := mul_one_plain ha
  have hcm1 : mulH b a = mulH a b := by unfold mulH; rw [Int.mul_comm]
  have hcm2 : mulL b a = mulL a b := by unfold mulL; rw [Int.mul_comm]
  have hw : IntKind.u64.wrap (a * b) = mulL a b := by rw [IntKind.wrap_u64]; rfl
  have u1 := mulH_U ha hb
  have u2 := mulL_U ha hb
  have u3 := mulH_U ha hc
  have u4 := mulL_U ha hc
  obtain ⟨X, eX⟩ : ∃ x, mulH a b = x := ⟨_, rfl⟩
  obtain ⟨Y, eY⟩ : ∃ x, mulL a b = x := ⟨_, rfl⟩
  obtain ⟨Z, eZ⟩ : ∃ x, mulH a c = x := ⟨_, rfl⟩
  obtain ⟨V, eV⟩ : ∃ x, mulL a c = x := ⟨_, rfl⟩
  rw [eX] at u1 hcm1 hplain
  rw [eY] at u2 hcm2 hw hplain
  rw [eZ] at u3 hplain
  rw [eV] at u4 hplain
  have H := Lib.hid (And.intro eX (And.intro eY (And.intro eZ (And.intro eV (And.intro hcm1 (And.intro hcm2 hone))))))
  clear eX eY eZ eV hcm1 hcm2 hone
  by_cases hs : b + c ≤ 18446744073709551615
  · have P := Lib.hid (hplain hs)
    have hbc : U (b + c) := by unfold U at *; omega
    have hc0 := hc.1
    have hb0 := hb.1
    clear hplain hsum
    go_enter Try.func9, Try.ntmps9
    go_wp2_with fail
    refine (wMul a b ha hb _).mono ?_
    rintro e w1 ⟨rfl, hb1⟩
    rw [H.out.1, H.out.2.1]
    go_wp2_with fail
    refine (wMul b a hb ha _).mono ?_
    rintro e w2 ⟨rfl, hb2⟩
    rw [H.out.2.2.2.2.1, H.out.2.2.2.2.2.1]
    go_wp2_with fail
    refine (wMul a c ha hc _).mono ?_
    rintro e w3 ⟨rfl, hb3⟩
    rw [H.out.2.2.1, H.out.2.2.2.1]
    go_wp2_with fail
    refine (wMul a (b + c) ha hbc _).mono ?_
    rintro e w4 ⟨rfl, hb4⟩
    go_wp2_with fail
    refine (wAdd X Y Z V u1 u2 u3 u4 _).mono ?_
    rintro e w5 ⟨rfl, rfl⟩
    rw [P.out.1, P.out.2.1, P.out.2.2]
    go_wp2_with fail
    refine (wMul a 1 ha (by unfold U; omega) _).mono ?_
    rintro e w6 ⟨rfl, hb6⟩
    rw [H.out.2.2.2.2.2.2.1, H.out.2.2.2.2.2.2.2]
    go_wp2_with fail
    refine (wKnown _).mono ?_
    rintro e w7 ⟨rfl, hb7⟩
    go_wp2
    go_ret
    exact ⟨rfl, by repeat (first | exact Ext.refl _ | assumption | apply Ext.drew | apply Ext.alloc | (refine Ext.setCell ?_ (by simp <;> omega) _) | refine Ext.trans ?_ (by assumption))⟩
  · have hlt : IntKind.u64.wrap (b + c) < b := by rw [wrap_u64_hi (b + c) (by omega) (by have := hb.2; have := hc.2; omega)]; have := hc.2; omega
    obtain ⟨S, eS⟩ : ∃ S, IntKind.u64.wrap (b + c) = S := ⟨_, rfl⟩
    rw [eS] at hlt hsum
    clear hplain
    go_enter Try.func9, Try.ntmps9
    go_wp2_with fail
    refine (wMul a b ha hb _).mono ?_
    rintro e w1 ⟨rfl, hb1⟩
    rw [H.out.1, H.out.2.1]
    go_wp2_with fail
    refine (wMul b a hb ha _).mono ?_
    rintro e w2 ⟨rfl, hb2⟩
    rw [H.out.2.2.2.2.1, H.out.2.2.2.2.2.1]
    go_wp2_with fail
    refine (wMul a c ha hc _).mono ?_
    rintro e w3 ⟨rfl, hb3⟩
    rw [H.out.2.2.1, H.out.2.2.2.1]
    go_wp2_with fail
    refine (wMul a S ha hsum _).mono ?_
    rintro e w4 ⟨rfl, hb4⟩
    go_wp2_with fail
    refine (wAdd X Y Z V u1 u2 u3 u4 _).mono ?_
    rintro e w5 ⟨rfl, rfl⟩
    go_wp2_with fail
    refine (wMul a 1 ha (by unfold U; omega) _).mono ?_
    rintro e w6 ⟨rfl, hb6⟩
    rw [H.out.2.2.2.2.2.2.1, H.out.2.2.2.2.2.2.2]
    go_wp2_with fail
    refine (wKnown _).mono ?_
    rintro e w7 ⟨rfl, hb7⟩
    go_wp2
    go_ret
    exact ⟨rfl, by repeat (first | exact Ext.refl _ | assumption | apply Ext.drew | apply Ext.alloc | (refine Ext.setCell ?_ (by simp <;> omega) _) | refine Ext.trans ?_ (by assumption))⟩

end Go.Proofs.Ytnicanbkocphlaa
