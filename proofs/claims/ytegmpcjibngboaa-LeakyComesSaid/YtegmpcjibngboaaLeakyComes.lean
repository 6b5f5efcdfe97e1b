/- LeakyComes: the walk. -/
import Derived.Test.YtegmpcjibngboaaLeakyKnown
set_option linter.unusedVariables false
namespace Go.Proofs.Ytegmpcjibngboaa
open Go.RowKit

attribute [local go_sem] ite_min ite_max

set_option maxHeartbeats 1000000 in
theorem lComes (k0 A0 B0 now most v k : Int) (h0 : 0 ≤ k0 ∧ k0 ≤ 255) (hA : U A0) (hB : U B0) (hn : U now) (hm : U most) (hv : U v) (hk : 0 ≤ k ∧ k ≤ 255) (w : World) :
    Calls Try.prog 11 #[.agg #[.int .u8 k0, .int .u64 A0, .int .u64 B0], .int .u64 now, .int .u64 most, .int .u64 v, .int .u8 k] w
      fun e w' => e = .returned (.bool true) ∧ Ext w w' := by
  have hv' := shr_U hv (k % 64).toNat
  obtain ⟨x, ex⟩ : ∃ x, v / 2 ^ (k % 64).toNat = x := ⟨_, rfl⟩
  rw [ex] at hv'
  have hF := lfill_U hA hB hn
  have hyes := @l_yes k0 A0 B0 now most x
  have hno := @l_no k0 A0 B0 now most x
  obtain ⟨F, eF⟩ : ∃ F, lfill A0 B0 now = F := ⟨_, rfl⟩
  rw [eF] at hF hyes hno
  have HX := Lib.hid ex; have HF := Lib.hid eF
  clear ex eF
  obtain ⟨hv1, hv2⟩ := hv
  obtain ⟨hm1, hm2⟩ := hm
  obtain ⟨hk1, hk2⟩ := hk
  obtain ⟨hF1, hF2⟩ := hF
  obtain ⟨hx1, hx2⟩ := hv'
  by_cases hle : F + x ≤ most
  · have Y := Lib.hid (hyes hle)
    have hG : lfill (F + x) now now = F + x := by unfold U at *; unfold lfill usub; omega
    have HG := Lib.hid hG
    clear hyes hno hG
    go_enter Try.func11, Try.ntmps11
    go_wp2_with fail
    rw [HX.out]
    refine (lFill k0 A0 B0 now most hA hB hn _).mono ?_
    rintro e1 w1 ⟨rfl, hb1⟩
    rw [HF.out]
    have z1 : w.heap.size < w1.heap.size := by have := hb1.size; simp at this; omega
    have s0 : w1.cell? ⟨w.heap.size, 0, none⟩ = some (.int .u8 k0) := hb1.reads (by go_simp)
    have s1 : w1.cell? ⟨w.heap.size, 1, none⟩ = some (.int .u64 A0) := hb1.reads (by go_simp)
    have s2 : w1.cell? ⟨w.heap.size, 2, none⟩ = some (.int .u64 B0) := hb1.reads (by go_simp)
    go_wp2_with fail
    refine (lDecide k0 A0 B0 now most x hA hB hn ⟨hm1, hm2⟩ ⟨hx1, hx2⟩ _).mono ?_
    rintro e2 w2 ⟨rfl, hb2⟩
    rw [Y.out.1, Y.out.2.1, Y.out.2.2.1, Y.out.2.2.2]
    go_wp2_with fail
    refine (lKnown _).mono ?_
    rintro e3 w3 ⟨rfl, hb3⟩
    have t0 : w3.cell? ⟨w2.heap.size, 0, none⟩ = some (.int .u8 3) := hb3.reads (by go_simp)
    have t1 : w3.cell? ⟨w2.heap.size, 1, none⟩ = some (.int .u64 (F + x)) := hb3.reads (by go_simp)
    have t2 : w3.cell? ⟨w2.heap.size, 2, none⟩ = some (.int .u64 now) := hb3.reads (by go_simp)
    go_wp2_with fail
    refine (lFill 3 (F + x) now now most (by unfold U; omega) hn hn _).mono ?_
    rintro e4 w4 ⟨rfl, hb4⟩
    rw [HG.out]
    have u0 := hb4.reads t0
    have u1 := hb4.reads t1
    have u2 := hb4.reads t2
    go_wp2
    go_ret
    exact ⟨rfl, by repeat (first | exact Ext.refl _ | assumption | apply Ext.drew | apply Ext.alloc | (refine Ext.setCell ?_ (by simp <;> omega) _) | refine Ext.trans ?_ (by assumption))⟩
  · have Y := Lib.hid (hno hle)
    clear hyes hno
    go_enter Try.func11, Try.ntmps11
    go_wp2_with fail
    rw [HX.out]
    refine (lFill k0 A0 B0 now most hA hB hn _).mono ?_
    rintro e1 w1 ⟨rfl, hb1⟩
    rw [HF.out]
    have z1 : w.heap.size < w1.heap.size := by have := hb1.size; simp at this; omega
    have s0 : w1.cell? ⟨w.heap.size, 0, none⟩ = some (.int .u8 k0) := hb1.reads (by go_simp)
    have s1 : w1.cell? ⟨w.heap.size, 1, none⟩ = some (.int .u64 A0) := hb1.reads (by go_simp)
    have s2 : w1.cell? ⟨w.heap.size, 2, none⟩ = some (.int .u64 B0) := hb1.reads (by go_simp)
    go_wp2_with fail
    refine (lDecide k0 A0 B0 now most x hA hB hn ⟨hm1, hm2⟩ ⟨hx1, hx2⟩ _).mono ?_
    rintro e2 w2 ⟨rfl, hb2⟩
    rw [Y.out.1, Y.out.2.1, Y.out.2.2.1, Y.out.2.2.2]
    go_wp2_with fail
    refine (lKnown _).mono ?_
    rintro e3 w3 ⟨rfl, hb3⟩
    have s'0 := hb2.reads s0
    have s'1 := hb2.reads s1
    have s'2 := hb2.reads s2
    have z2 : w.heap.size < w2.heap.size := by have := hb2.size; omega
    have t0 : w3.cell? ⟨w2.heap.size, 0, none⟩ = some (.int .u8 k0) := hb3.reads (by go_simp)
    have t1 : w3.cell? ⟨w2.heap.size, 1, none⟩ = some (.int .u64 A0) := hb3.reads (by go_simp)
    have t2 : w3.cell? ⟨w2.heap.size, 2, none⟩ = some (.int .u64 B0) := hb3.reads (by go_simp)
    have s''0 : w3.cell? ⟨w.heap.size, 0, none⟩ = some (.int .u8 k0) := hb3.reads (by go_simp)
    have s''1 : w3.cell? ⟨w.heap.size, 1, none⟩ = some (.int .u64 A0) := hb3.reads (by go_simp)
    have s''2 : w3.cell? ⟨w.heap.size, 2, none⟩ = some (.int .u64 B0) := hb3.reads (by go_simp)
    by_cases hxm : most < x
    · go_wp2
      go_ret
      exact ⟨rfl, by repeat (first | exact Ext.refl _ | assumption | apply Ext.drew | apply Ext.alloc | (refine Ext.setCell ?_ (by simp <;> omega) _) | refine Ext.trans ?_ (by assumption))⟩
    · have hfin : most - x < F := by omega
      go_wp2
      go_ret
      exact ⟨rfl, by repeat (first | exact Ext.refl _ | assumption | apply Ext.drew | apply Ext.alloc | (refine Ext.setCell ?_ (by simp <;> omega) _) | refine Ext.trans ?_ (by assumption))⟩

end Go.Proofs.Ytegmpcjibngboaa
