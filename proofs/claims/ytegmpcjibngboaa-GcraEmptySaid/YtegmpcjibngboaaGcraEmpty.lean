/- GcraEmpty: the walk. -/
import Derived.Test.YtegmpcjibngboaaGcraKnown
set_option linter.unusedVariables false
namespace Go.Proofs.Ytegmpcjibngboaa
open Go.RowKit

attribute [local go_sem] ite_min ite_max

set_option maxHeartbeats 2000000 in
theorem gEmpty (now m d : Int) (hn : U now) (hm : 0 ≤ m ∧ m ≤ 4294967295) (hd : 0 ≤ d ∧ d ≤ 4294967295) (w : World) :
    Calls Try.prog 20 #[.int .u64 now, .int .u32 m, .int .u32 d] w
      fun e w' => e = .returned (.bool true) ∧ Ext w w' := by
  obtain ⟨hn1, hn2⟩ := hn
  obtain ⟨hm1, hm2⟩ := hm
  obtain ⟨hd1, hd2⟩ := hd
  have T1 : uadd (max 0 (now / 4)) m = now / 4 + m := by unfold uadd; omega
  have Y1 := @g_yes 0 0 0 (now / 4) m m (by omega)
  have Y2 := Lib.hid (@g_no 0 0 0 (now / 4) m (m + 1) (by omega))
  rw [T1] at Y1
  have Y1 := Lib.hid Y1
  have Y3 : Hid (gok (now / 4 + m) 0 (now / 4 + d) m 1 = decide (1 ≤ min m d)) := by unfold Hid gok fits; exact decide_eq_decide.2 (by omega)
  clear T1
  go_enter Try.func20, Try.ntmps20
  go_wp2_with fail
  refine (gDecide 0 0 0 (now / 4) m m (by unfold U; omega) (by unfold U; omega) (by unfold U; omega) (by unfold U; omega) (by unfold U; omega) _).mono ?_
  rintro e1 w1 ⟨rfl, hb1⟩
  rw [Y1.out.1, Y1.out.2.1, Y1.out.2.2.1, Y1.out.2.2.2]
  go_wp2_with fail
  refine (gDecide 0 0 0 (now / 4) m (m + 1) (by unfold U; omega) (by unfold U; omega) (by unfold U; omega) (by unfold U; omega) (by unfold U; omega) _).mono ?_
  rintro e2 w2 ⟨rfl, hb2⟩
  rw [Y2.out.1, Y2.out.2.1, Y2.out.2.2.1, Y2.out.2.2.2]
  have z2 : w1.heap.size < w2.heap.size := by have := hb2.size; simp at this; omega
  have t0 : w2.cell? ⟨w1.heap.size, 0, none⟩ = some (.int .u8 1) := hb2.reads (by go_simp)
  have t1 : w2.cell? ⟨w1.heap.size, 1, none⟩ = some (.int .u64 (now / 4 + m)) := hb2.reads (by go_simp)
  have t2 : w2.cell? ⟨w1.heap.size, 2, none⟩ = some (.int .u64 0) := hb2.reads (by go_simp)
  go_wp2_with fail
  refine (gDecide 1 (now / 4 + m) 0 (now / 4 + d) m 1 (by unfold U; omega) (by unfold U; omega) (by unfold U; omega) (by unfold U; omega) (by unfold U; omega) _).mono ?_
  rintro e3 w3 ⟨rfl, hb3⟩
  rw [Y3.out]
  have z3 : w2.heap.size < w3.heap.size := by have := hb3.size; simp at this; omega
  have z3' : w1.heap.size < w3.heap.size := by omega
  have t'0 := hb3.past.reads t0
  have t'1 := hb3.past.reads t1
  have t'2 := hb3.past.reads t2
  go_wp2_with fail
  refine (gKnown _).mono ?_
  rintro e4 w4 ⟨rfl, hb4⟩
  have z4 : w1.heap.size < w4.heap.size := by have := hb4.size; simp at this; omega
  have t''0 := hb4.past.reads t'0
  have t''1 := hb4.past.reads t'1
  have t''2 := hb4.past.reads t'2
  clear Y1 Y2 Y3
  by_cases hm0 : 0 < m
  · by_cases hd0 : 0 < d
    · rw [show decide (1 ≤ min m d) = true from by simp; omega]
      go_wp2
      go_ret
      exact ⟨rfl, by repeat (first | exact Ext.refl _ | assumption | apply Ext.drew | apply Ext.alloc | (refine Ext.setCell ?_ (by simp <;> omega) _) | refine Ext.trans ?_ (by assumption))⟩
    · rw [show decide (1 ≤ min m d) = false from by simp; omega]
      go_wp2
      go_ret
      exact ⟨ret_bool (by simp; omega), by repeat (first | exact Ext.refl _ | assumption | apply Ext.drew | apply Ext.alloc | (refine Ext.setCell ?_ (by simp <;> omega) _) | refine Ext.trans ?_ (by assumption))⟩
  · rw [show decide (1 ≤ min m d) = false from by simp; omega]
    go_wp2
    go_ret
    exact ⟨rfl, by repeat (first | exact Ext.refl _ | assumption | apply Ext.drew | apply Ext.alloc | (refine Ext.setCell ?_ (by simp <;> omega) _) | refine Ext.trans ?_ (by assumption))⟩

end Go.Proofs.Ytegmpcjibngboaa
