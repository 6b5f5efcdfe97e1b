/- The chapter's example of the layer bucket. -/
import Derived.Test.YtegmpcjibngboaaGcra
set_option linter.unusedVariables false
namespace Go.Proofs.Ytegmpcjibngboaa
open Go.RowKit

theorem gKnown (w : World) : Calls Try.prog 32 #[] w fun e w' => e = .returned (.bool true) ∧ Ext w w' := by
  go_enter Try.func32, Try.ntmps32
  go_wp2_with fail
  refine (gOf' 5 10 8 (by unfold U; omega) (by unfold U; omega) (by unfold U; omega) _).mono ?_
  rintro e w1 ⟨rfl, hb1⟩
  rw [show uadd 5 8 = 13 from by decide]
  go_wp2_with fail
  refine (gDecide 1 13 0 8 10 6 (by unfold U; omega) (by unfold U; omega) (by unfold U; omega) (by unfold U; omega) (by unfold U; omega) _).mono ?_
  rintro e w2 ⟨rfl, hb2⟩
  rw [show gK 1 13 0 8 10 6 = 1 from by decide, show gA 13 0 8 10 6 = 13 from by decide, show gB 13 0 8 10 6 = 0 from by decide, show gok 13 0 8 10 6 = false from by decide]
  have z2 : w1.heap.size < w2.heap.size := by have := hb2.size; simp at this; omega
  have s0 : w2.cell? ⟨w1.heap.size, 0, none⟩ = some (.int .u8 1) := hb2.reads (by go_simp)
  have s1 : w2.cell? ⟨w1.heap.size, 1, none⟩ = some (.int .u64 13) := hb2.reads (by go_simp)
  have s2 : w2.cell? ⟨w1.heap.size, 2, none⟩ = some (.int .u64 0) := hb2.reads (by go_simp)
  go_wp2_with fail
  refine (gFill' 1 13 0 8 10 (by unfold U; omega) (by unfold U; omega) (by unfold U; omega) (by unfold U; omega) _).mono ?_
  rintro e w3 ⟨rfl, hb3⟩
  rw [show gfil 13 0 8 10 = 5 from by decide]
  have z3 : w2.heap.size < w3.heap.size := by have := hb3.size; simp at this; omega
  have t0 : w3.cell? ⟨w1.heap.size, 0, none⟩ = some (.int .u8 1) := hb3.reads (by go_simp)
  have t1 : w3.cell? ⟨w1.heap.size, 1, none⟩ = some (.int .u64 13) := hb3.reads (by go_simp)
  have t2 : w3.cell? ⟨w1.heap.size, 2, none⟩ = some (.int .u64 0) := hb3.reads (by go_simp)
  have r0 : w3.cell? ⟨w2.heap.size, 0, none⟩ = some (.int .u8 1) := hb3.reads (by go_simp)
  have r1 : w3.cell? ⟨w2.heap.size, 1, none⟩ = some (.int .u64 13) := hb3.reads (by go_simp)
  have r2 : w3.cell? ⟨w2.heap.size, 2, none⟩ = some (.int .u64 0) := hb3.reads (by go_simp)
  go_wp2
  go_ret
  exact ⟨rfl, by repeat (first | exact Ext.refl _ | assumption | apply Ext.drew | apply Ext.alloc | (refine Ext.setCell ?_ (by simp <;> omega) _) | refine Ext.trans ?_ (by assumption))⟩

end Go.Proofs.Ytegmpcjibngboaa
