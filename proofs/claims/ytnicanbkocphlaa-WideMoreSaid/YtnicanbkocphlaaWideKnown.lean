/- The chapter's examples of the layer wide; the plain laws' parts. -/
import Derived.Test.YtnicanbkocphlaaWideRef
set_option linter.unusedVariables false
namespace Go.Proofs.Ytnicanbkocphlaa
open Go.RowKit

attribute [local go_sem] ite_min ite_max

theorem wKnown (w : World) : Calls Try.prog 19 #[] w fun e w' => e = .returned (.bool true) ∧ Ext w w' := by
  go_enter Try.func19, Try.ntmps19
  go_wp2_with fail
  refine (wMul 9223372036854775808 6 (by unfold U; omega) (by unfold U; omega) _).mono ?_
  rintro e w1 ⟨rfl, hb1⟩
  rw [show mulH 9223372036854775808 6 = 3 from by decide, show mulL 9223372036854775808 6 = 0 from by decide]
  go_wp2_with fail
  refine (wDiv 3 0 6 (by unfold U; omega) (by unfold U; omega) (by unfold U; omega) _).mono ?_
  rintro e w2 ⟨rfl, rfl⟩
  rw [show divQ 3 0 6 = 9223372036854775808 from by decide, show divR 3 0 6 = 0 from by decide, show divOk 3 6 = true from by decide]
  go_wp2_with fail
  refine (wLess 0 5 1 0 (by unfold U; omega) (by unfold U; omega) (by unfold U; omega) (by unfold U; omega) _).mono ?_
  rintro e w2 ⟨rfl, rfl⟩
  rw [show less 0 5 1 0 = true from by decide]
  go_wp2_with fail
  go_ret
  exact ⟨rfl, by repeat (first | exact Ext.refl _ | assumption | apply Ext.drew | apply Ext.alloc | (refine Ext.setCell ?_ (by simp <;> omega) _) | refine Ext.trans ?_ (by assumption))⟩

end Go.Proofs.Ytnicanbkocphlaa
