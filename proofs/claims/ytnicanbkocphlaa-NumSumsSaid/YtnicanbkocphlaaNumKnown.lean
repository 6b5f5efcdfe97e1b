/- The chapter's examples of the layer num. -/
import Derived.Test.YtnicanbkocphlaaNumMore
set_option linter.unusedVariables false
namespace Go.Proofs.Ytnicanbkocphlaa
open Go.RowKit

attribute [local go_sem] ite_min ite_max

theorem nKnown (w : World) : Calls Try.prog 20 #[] w fun e w' => e = .returned (.bool true) ∧ Ext w w' := by
  go_enter Try.func20, Try.ntmps20
  go_wp2_with fail
  refine (nAdd2 18446744073709551615 5 _ _ (by unfold U; omega) (by unfold U; omega) _ ?_ ?_).mono ?_
  · go_simp
  · go_simp
  rintro e w1 ⟨rfl, rfl⟩
  rw [show uadd 18446744073709551615 5 = 18446744073709551615 from by decide]
  go_wp2_with fail
  refine (nCeil 7 2 (by unfold U; omega) (by unfold U; omega) _).mono ?_
  rintro e w1 ⟨rfl, rfl⟩
  rw [show uceil 7 2 = 4 from by decide]
  go_wp2_with fail
  refine (nDiv 7 2 (by unfold U; omega) (by unfold U; omega) _).mono ?_
  rintro e w1 ⟨rfl, rfl⟩
  rw [show udiv 7 2 = 3 from by decide]
  go_wp2_with fail
  refine (nSub 3 5 (by unfold U; omega) (by unfold U; omega) _).mono ?_
  rintro e w1 ⟨rfl, rfl⟩
  rw [show usub 3 5 = 0 from by decide]
  go_wp2_with fail
  refine (nClamp (-4) (by omega) (by omega) _).mono ?_
  rintro e w1 ⟨rfl, rfl⟩
  rw [show max (-4 : Int) 0 = 0 from by decide]
  go_wp2_with fail
  refine (nAddNil 0 _).mono ?_
  rintro e w1 ⟨rfl, rfl⟩
  go_wp2_with fail
  go_ret
  exact ⟨rfl, by repeat (first | exact Ext.refl _ | assumption | apply Ext.drew | apply Ext.alloc | (refine Ext.setCell ?_ (by simp <;> omega) _) | refine Ext.trans ?_ (by assumption))⟩

end Go.Proofs.Ytnicanbkocphlaa
