/- TopWire: the witness of its premises: the heap that the door's own run leaves. -/
import Derived.Test.YtdgcgpapcbjfhaaGreatDoorRows
import Derived.Handed
import Derived.LaidLaws
import Derived.LaidMore
import Derived.Below
import Derived.WalkKit
import Derived.ProofKit
import Derived.Stop.Joined
set_option linter.unusedVariables false
namespace Go.Proofs.YtdgcgpapcbjfhaaGreatDoor.topWire
open Go.ChangeShapes Go.WideShapes Go.ChangeAt Go.RowKit

theorem own : ownKnob Tryz.prog.godebug = none := by kernel_rfl
theorem laidOut : laidOutB Tryz.prog = true := by kernel_rfl

/-- The door's own heap meets the condition. -/
theorem door_met (os : Os) (args : Array Value) : laidMetH Tryz.prog Rows.topWireRow.laid ((World.doorLaid Tryz.prog 28 os).forCall (fun _ _ => 0) ⟨#[], args, []⟩).memory :=
  laidMetH_of_parts3 (fuel := 8) (laidMet_of_run' 8 (by kernel_rfl) (by kernel_rfl)) (by kernel_rfl) (by kernel_rfl)

set_option maxRecDepth 100000 in
theorem wit (os : Os) (H : Type) (enc : TypeId × Value → H) :
    ∃ (w : World) (tape : Tape) (i : Input), w.os = os ∧ (w.forCall tape i).Shaped Tryz.checked.prog ∧ i.vars = [] ∧ Input.okWide Tryz.checked.prog (w.forCall tape i) .any w.heap.size 3 i ∧
    ((Rows.topWireSpec.pre enc Tryz.checked.prog Tryz.f3 [] false (w.forCall tape i).memory i.args ∧ laidMetH Tryz.prog Rows.topWireRow.laid (w.forCall tape i).memory) ∧ sizedMet enc Tryz.checked.prog Tryz.f3 (OpenSpec.ofChange Rows.topWireSpec) false (w.forCall tape i).memory i.args) ∧ ({} : Assume).holds Tryz.checked.prog (lone (Frame.enter Tryz.checked.prog 3 i.args .normal) [] (w.forCall tape i)) :=
  ChangeSpec.witness_shaped (enc := enc) (C := Tryz.checked) (os := os) (X := fun w _ => laidMetH Tryz.prog Rows.topWireRow.laid w) false (World.doorLaid Tryz.prog 28 os) #[.slice none 0 0, .slice none 0 0, .int .u16 0, .slice none 0 0, .int .u16 0, .int .u8 0, .string ⟨#[]⟩, .slice none 0 0, .int .u64 0] 8 rfl (World.shaped_of_RefB (by kernel_rfl) (by kernel_rfl)) (by kernel_rfl) (by kernel_rfl) (by kernel_rfl) (door_met os _)

end Go.Proofs.YtdgcgpapcbjfhaaGreatDoor.topWire
