/- NumClamp: the walk. -/
import Derived.Test.YtnicanbkocphlaaNumKnown
set_option linter.unusedVariables false
namespace Go.Proofs.Ytnicanbkocphlaa
open Go.RowKit

attribute [local go_sem] ite_min ite_max

set_option maxHeartbeats 1000000 in
theorem nClampLaw (s t : Int) (hs : -9223372036854775808 ≤ s ∧ s ≤ 9223372036854775807) (ht : -9223372036854775808 ≤ t ∧ t ≤ 9223372036854775807) (w : World) :
    Calls Try.prog 6 #[.int .i64 s, .int .i64 t] w fun e w' => e = .returned (.bool true) ∧ Ext w w' := by
  obtain ⟨hs1, hs2⟩ := hs
  obtain ⟨ht1, ht2⟩ := ht
  obtain ⟨a, ea⟩ : ∃ a, max s 0 = a := ⟨_, rfl⟩
  obtain ⟨b, eb⟩ : ∃ b, max t 0 = b := ⟨_, rfl⟩
  have ha0 : 0 ≤ a := by omega
  have ha1 : a ≤ 9223372036854775807 := by omega
  have hEA := Lib.hid ea; have hEB := Lib.hid eb
  have haa := Lib.hid (show max a 0 = a by omega)
  by_cases hlt : t < s
  · by_cases h0 : s < 0
    · have hz : a = 0 := by omega
      subst hz
      clear ea eb
      go_enter Try.func6, Try.ntmps6
      go_wp2_with fail
      refine (nClamp s hs1 hs2 _).mono ?_
      rintro e w1 ⟨rfl, rfl⟩
      rw [hEA.out]
      go_wp2_with fail
      refine (nClamp t ht1 ht2 _).mono ?_
      rintro e w1 ⟨rfl, rfl⟩
      rw [hEB.out]
      go_wp2_with fail
      refine (nKnown _).mono ?_
      rintro e w1 ⟨rfl, hb1⟩
      go_wp2_with fail
      refine (nClamp 0 (by omega) (by omega) _).mono ?_
      rintro e w2 ⟨rfl, rfl⟩
      rw [haa.out]
      go_wp2
      go_ret
      exact ⟨rfl, by repeat (first | exact Ext.refl _ | assumption | apply Ext.drew | apply Ext.alloc | (refine Ext.setCell ?_ (by simp <;> omega) _) | refine Ext.trans ?_ (by assumption))⟩
    · have hz : a = s := by omega
      subst hz
      clear ea eb
      go_enter Try.func6, Try.ntmps6
      go_wp2_with fail
      refine (nClamp a hs1 hs2 _).mono ?_
      rintro e w1 ⟨rfl, rfl⟩
      rw [hEA.out]
      go_wp2_with fail
      refine (nClamp t ht1 ht2 _).mono ?_
      rintro e w1 ⟨rfl, rfl⟩
      rw [hEB.out]
      go_wp2_with fail
      refine (nKnown _).mono ?_
      rintro e w1 ⟨rfl, hb1⟩
      go_wp2_with fail
      refine (nClamp a (by omega) (by omega) _).mono ?_
      rintro e w2 ⟨rfl, rfl⟩
      rw [haa.out]
      go_wp2
      go_ret
      exact ⟨rfl, by repeat (first | exact Ext.refl _ | assumption | apply Ext.drew | apply Ext.alloc | (refine Ext.setCell ?_ (by simp <;> omega) _) | refine Ext.trans ?_ (by assumption))⟩
  · have hab : a ≤ b := by omega
    by_cases h0 : s < 0
    · have hz : a = 0 := by omega
      subst hz
      clear ea eb
      go_enter Try.func6, Try.ntmps6
      go_wp2_with fail
      refine (nClamp s hs1 hs2 _).mono ?_
      rintro e w1 ⟨rfl, rfl⟩
      rw [hEA.out]
      go_wp2_with fail
      refine (nClamp t ht1 ht2 _).mono ?_
      rintro e w1 ⟨rfl, rfl⟩
      rw [hEB.out]
      go_wp2_with fail
      refine (nKnown _).mono ?_
      rintro e w1 ⟨rfl, hb1⟩
      go_wp2_with fail
      refine (nClamp 0 (by omega) (by omega) _).mono ?_
      rintro e w2 ⟨rfl, rfl⟩
      rw [haa.out]
      go_wp2
      go_ret
      exact ⟨rfl, by repeat (first | exact Ext.refl _ | assumption | apply Ext.drew | apply Ext.alloc | (refine Ext.setCell ?_ (by simp <;> omega) _) | refine Ext.trans ?_ (by assumption))⟩
    · have hz : a = s := by omega
      subst hz
      clear ea eb
      go_enter Try.func6, Try.ntmps6
      go_wp2_with fail
      refine (nClamp a hs1 hs2 _).mono ?_
      rintro e w1 ⟨rfl, rfl⟩
      rw [hEA.out]
      go_wp2_with fail
      refine (nClamp t ht1 ht2 _).mono ?_
      rintro e w1 ⟨rfl, rfl⟩
      rw [hEB.out]
      go_wp2_with fail
      refine (nKnown _).mono ?_
      rintro e w1 ⟨rfl, hb1⟩
      go_wp2_with fail
      refine (nClamp a (by omega) (by omega) _).mono ?_
      rintro e w2 ⟨rfl, rfl⟩
      rw [haa.out]
      go_wp2
      go_ret
      exact ⟨rfl, by repeat (first | exact Ext.refl _ | assumption | apply Ext.drew | apply Ext.alloc | (refine Ext.setCell ?_ (by simp <;> omega) _) | refine Ext.trans ?_ (by assumption))⟩

end Go.Proofs.Ytnicanbkocphlaa
