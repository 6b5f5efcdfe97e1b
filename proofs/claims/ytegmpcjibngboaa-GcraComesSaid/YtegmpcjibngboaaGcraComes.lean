/- GcraComes: the walk. -/
import Derived.Test.YtegmpcjibngboaaGcraKnown
set_option linter.unusedVariables false
namespace Go.Proofs.Ytegmpcjibngboaa
open Go.RowKit

attribute [local go_sem] ite_min ite_max

set_option maxHeartbeats 1000000 in
theorem gComes (k0 A0 B0 now most v k : Int) (h0 : 0 ≤ k0 ∧ k0 ≤ 255) (hA : U A0) (hB : U B0) (hn : U now) (hm : U most) (hv : U v) (hk : 0 ≤ k ∧ k ≤ 255) (w : World) :
    Calls Try.prog 17 #[.agg #[.int .u8 k0, .int .u64 A0, .int .u64 B0], .int .u64 now, .int .u64 most, .int .u64 v, .int .u8 k] w
      fun e w' => e = .returned (.bool true) ∧ Ext w w' := by
  have hv' := shr_U hv (k % 64).toNat
  obtain ⟨x, ex⟩ : ∃ x, v / 2 ^ (k % 64).toNat = x := ⟨_, rfl⟩
  rw [ex] at hv'
  have hyes := @g_yes k0 A0 B0 (now / 4) (most / 4) x
  have hno := @g_no k0 A0 B0 (now / 4) (most / 4) x
  obtain ⟨F, eF⟩ : ∃ F, usub A0 (now / 4) = F := ⟨_, rfl⟩
  have hFm : max A0 (now / 4) - now / 4 = F := by rw [← eF]; unfold usub; omega
  have HX := Lib.hid ex; have HF := Lib.hid eF
  have hFl : 0 ≤ F := by omega
  have hFh : F ≤ 18446744073709551615 := by have := hA.hi; have := hA.lo; have := hn.lo; omega
  have hmax : max A0 (now / 4) = now / 4 + F := by omega
  clear ex eF
  obtain ⟨hv1, hv2⟩ := hv
  obtain ⟨hm1, hm2⟩ := hm
  obtain ⟨hk1, hk2⟩ := hk
  obtain ⟨hn1, hn2⟩ := hn
  obtain ⟨hx1, hx2⟩ := hv'
  obtain ⟨hA1, hA2⟩ := hA
  by_cases hle : F + x ≤ most / 4
  · have Y0 := hyes (by omega)
    obtain ⟨M, eM⟩ : ∃ M, max A0 (now / 4) = M := ⟨_, rfl⟩
    have hM0 : 0 ≤ M := by omega
    have hM1 : M ≤ 18446744073709551615 := by omega
    have hM2 : M = now / 4 + F := by omega
    have hu : uadd M x = M + x := by unfold uadd; omega
    have hMx : M + x ≤ 18446744073709551615 := by omega
    rw [eM, hu] at Y0
    have Y := Lib.hid Y0
    have hG : usub (M + x) (now / 4) = F + x := by unfold usub; omega
    have HG := Lib.hid hG
    have hMU : U (M + x) := by unfold U; omega
    clear hyes hno hG hu Y0 hFm hmax hM2
    go_enter Try.func17, Try.ntmps17
    go_wp2_with fail
    rw [HX.out]
    refine (gFill k0 A0 B0 (now / 4) (most / 4) ⟨hA1, hA2⟩ hB (by unfold U; omega) _).mono ?_
    rintro e1 w1 ⟨rfl, hb1⟩
    rw [HF.out]
    have z1 : w.heap.size < w1.heap.size := by have := hb1.size; simp at this; omega
    have s0 : w1.cell? ⟨w.heap.size, 0, none⟩ = some (.int .u8 k0) := hb1.reads (by go_simp)
    have s1 : w1.cell? ⟨w.heap.size, 1, none⟩ = some (.int .u64 A0) := hb1.reads (by go_simp)
    have s2 : w1.cell? ⟨w.heap.size, 2, none⟩ = some (.int .u64 B0) := hb1.reads (by go_simp)
    go_wp2_with fail
    refine (gDecide k0 A0 B0 (now / 4) (most / 4) x ⟨hA1, hA2⟩ hB (by unfold U; omega) (by unfold U; omega) ⟨hx1, hx2⟩ _).mono ?_
    rintro e2 w2 ⟨rfl, hb2⟩
    rw [Y.out.1, Y.out.2.1, Y.out.2.2.1, Y.out.2.2.2]
    have s'0 := hb2.reads s0
    have s'1 := hb2.reads s1
    have s'2 := hb2.reads s2
    have z2 : w.heap.size < w2.heap.size := by have := hb2.size; omega
    go_wp2_with fail
    refine (gKnown _).mono ?_
    rintro e3 w3 ⟨rfl, hb3⟩
    have t0 : w3.cell? ⟨w2.heap.size, 0, none⟩ = some (.int .u8 1) := hb3.reads (by go_simp)
    have t1 : w3.cell? ⟨w2.heap.size, 1, none⟩ = some (.int .u64 (M + x)) := hb3.reads (by go_simp)
    have t2 : w3.cell? ⟨w2.heap.size, 2, none⟩ = some (.int .u64 0) := hb3.reads (by go_simp)
    have s''0 := hb3.past.reads s'0
    have s''1 := hb3.past.reads s'1
    have s''2 := hb3.past.reads s'2
    go_wp2_with fail
    refine (gFill 1 (M + x) 0 (now / 4) (most / 4) hMU (by unfold U; omega) (by unfold U; omega) _).mono ?_
    rintro e4 w4 ⟨rfl, hb4⟩
    rw [HG.out]
    have u0 := hb4.reads t0
    have u1 := hb4.reads t1
    have u2 := hb4.reads t2
    have s'''0 := hb4.reads s''0
    have s'''1 := hb4.reads s''1
    have s'''2 := hb4.reads s''2
    go_wp2
    go_ret
    exact ⟨rfl, by repeat (first | exact Ext.refl _ | assumption | apply Ext.drew | apply Ext.alloc | (refine Ext.setCell ?_ (by simp <;> omega) _) | refine Ext.trans ?_ (by assumption))⟩
  · have Y := Lib.hid (hno (by omega))
    clear hyes hno hFm hmax
    go_enter Try.func17, Try.ntmps17
    go_wp2_with fail
    rw [HX.out]
    refine (gFill k0 A0 B0 (now / 4) (most / 4) ⟨hA1, hA2⟩ hB (by unfold U; omega) _).mono ?_
    rintro e1 w1 ⟨rfl, hb1⟩
    rw [HF.out]
    have z1 : w.heap.size < w1.heap.size := by have := hb1.size; simp at this; omega
    have s0 : w1.cell? ⟨w.heap.size, 0, none⟩ = some (.int .u8 k0) := hb1.reads (by go_simp)
    have s1 : w1.cell? ⟨w.heap.size, 1, none⟩ = some (.int .u64 A0) := hb1.reads (by go_simp)
    have s2 : w1.cell? ⟨w.heap.size, 2, none⟩ = some (.int .u64 B0) := hb1.reads (by go_simp)
    go_wp2_with fail
    refine (gDecide k0 A0 B0 (now / 4) (most / 4) x ⟨hA1, hA2⟩ hB (by unfold U; omega) (by unfold U; omega) ⟨hx1, hx2⟩ _).mono ?_
    rintro e2 w2 ⟨rfl, hb2⟩
    rw [Y.out.1, Y.out.2.1, Y.out.2.2.1, Y.out.2.2.2]
    go_wp2_with fail
    refine (gKnown _).mono ?_
    rintro e3 w3 ⟨rfl, hb3⟩
    have s'0 := hb2.reads s0
    have s'1 := hb2.reads s1
    have s'2 := hb2.reads s2
    have z2 : w.heap.size < w2.heap.size := by have := hb2.size; omega
    have t0 : w3.cell? ⟨w2.heap.size, 0, none⟩ = some (.int .u8 k0) := hb3.reads (by go_simp)
    have t1 : w3.cell? ⟨w2.heap.size, 1, none⟩ = some (.int .u64 A0) := hb3.reads (by go_simp)
    have t2 : w3.cell? ⟨w2.heap.size, 2, none⟩ = some (.int .u64 B0) := hb3.reads (by go_simp)
    have s''0 : w3.cell? ⟨w.heap.size, 0, none⟩ = some (.int .u8 k0) := hb3.reads (by go_simp)
    have s''1 : w3.cell? ⟨w.heap.size, 1, none⟩ = some (.int .u64 A0) := hb3.reads (by go_simp)
    have s''2 : w3.cell? ⟨w.heap.size, 2, none⟩ = some (.int .u64 B0) := hb3.reads (by go_simp)
    by_cases hxm : most / 4 < x
    · go_wp2
      go_ret
      exact ⟨rfl, by repeat (first | exact Ext.refl _ | assumption | apply Ext.drew | apply Ext.alloc | (refine Ext.setCell ?_ (by simp <;> omega) _) | refine Ext.trans ?_ (by assumption))⟩
    · have hfin : most / 4 - x < F := by omega
      go_wp2
      go_ret
      exact ⟨rfl, by repeat (first | exact Ext.refl _ | assumption | apply Ext.drew | apply Ext.alloc | (refine Ext.setCell ?_ (by simp <;> omega) _) | refine Ext.trans ?_ (by assumption))⟩

end Go.Proofs.Ytegmpcjibngboaa
