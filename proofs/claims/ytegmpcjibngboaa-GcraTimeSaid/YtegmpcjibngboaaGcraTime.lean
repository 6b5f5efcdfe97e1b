/- GcraTime: the walk. -/
import Derived.Test.YtegmpcjibngboaaGcraKnown
set_option linter.unusedVariables false
namespace Go.Proofs.Ytegmpcjibngboaa
open Go.RowKit

attribute [local go_sem] ite_min ite_max

theorem gTime_plain {now fill d e : Int} (h0 : U now) (h1 : U fill) (h3a : 0 ≤ d) (h3b : d ≤ 4294967295) (h4a : 0 ≤ e) (h4b : e ≤ 4294967295) :
    uadd (now / 4) (fill / 4) = now / 4 + fill / 4 ∧ usub (now / 4 + fill / 4) (now / 4) = fill / 4 ∧ usub (now / 4 + fill / 4) (now / 4 + d) = fill / 4 - min (fill / 4) d ∧
    usub (now / 4 + fill / 4) (now / 4 + d + e) = fill / 4 - min (fill / 4) d - min (fill / 4 - min (fill / 4) d) e := by
  unfold U at *
  refine ⟨?_, ?_, ?_, ?_⟩ <;> first | (unfold uadd; omega) | (unfold usub; omega)

set_option maxHeartbeats 1000000 in
theorem gTime (now fill most d e : Int) (h0 : U now) (h1 : U fill) (h2 : U most) (h3 : 0 ≤ d ∧ d ≤ 4294967295) (h4 : 0 ≤ e ∧ e ≤ 4294967295) (w : World) :
    Calls Try.prog 16 #[.int .u64 now, .int .u64 fill, .int .u64 most, .int .u32 d, .int .u32 e] w fun e w' => e = .returned (.bool true) ∧ Ext w w' := by
  have H := Lib.hid (gTime_plain h0 h1 h3.1 h3.2 h4.1 h4.2)
  obtain ⟨h0a, h0b⟩ := h0
  obtain ⟨h1a, h1b⟩ := h1
  obtain ⟨h3a, h3b⟩ := h3
  obtain ⟨h4a, h4b⟩ := h4
  go_enter Try.func16, Try.ntmps16
  go_wp2_with fail
  refine (gOf _ _ _ (by unfold U; omega) (by unfold U; omega) _).mono ?_
  rintro e1 w1 ⟨rfl, hb1⟩
  rw [H.out.1]
  go_wp2_with fail
  refine (gFill 1 (now / 4 + fill / 4) 0 _ most (by unfold U; omega) (by unfold U; omega) (by unfold U; omega) _).mono ?_
  rintro e2 w2 ⟨rfl, hb2⟩
  rw [H.out.2.2.1]
  have z2 : w1.heap.size < w2.heap.size := by have := hb2.size; simp at this; omega
  have s0 : w2.cell? ⟨w1.heap.size, 0, none⟩ = some (.int .u8 1) := hb2.reads (by go_simp)
  have s1 : w2.cell? ⟨w1.heap.size, 1, none⟩ = some (.int .u64 (now / 4 + fill / 4)) := hb2.reads (by go_simp)
  have s2 : w2.cell? ⟨w1.heap.size, 2, none⟩ = some (.int .u64 0) := hb2.reads (by go_simp)
  go_wp2_with fail
  refine (gFill 1 (now / 4 + fill / 4) 0 _ most (by unfold U; omega) (by unfold U; omega) (by unfold U; omega) _).mono ?_
  rintro e3 w3 ⟨rfl, hb3⟩
  rw [H.out.2.2.2]
  have z3 : w1.heap.size < w3.heap.size := by have := hb3.size; omega
  have t0 := hb3.reads s0
  have t1 := hb3.reads s1
  have t2 := hb3.reads s2
  go_wp2_with fail
  refine (gKnown _).mono ?_
  rintro e4 w4 ⟨rfl, hb4⟩
  have v0 := hb4.reads t0
  have v1 := hb4.reads t1
  have v2 := hb4.reads t2
  go_wp2_with fail
  refine (gFill 1 (now / 4 + fill / 4) 0 _ most (by unfold U; omega) (by unfold U; omega) (by unfold U; omega) _).mono ?_
  rintro e5 w5 ⟨rfl, hb5⟩
  rw [H.out.2.1]
  go_wp2_with fail
  go_ret
  exact ⟨rfl, by repeat (first | exact Ext.refl _ | assumption | apply Ext.drew | apply Ext.alloc | (refine Ext.setCell ?_ (by simp <;> omega) _) | refine Ext.trans ?_ (by assumption))⟩

end Go.Proofs.Ytegmpcjibngboaa
