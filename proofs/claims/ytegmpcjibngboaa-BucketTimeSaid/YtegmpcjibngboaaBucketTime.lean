/- BucketTime -/
import Derived.Test.YtegmpcjibngboaaBucketKnown
set_option linter.unusedVariables false
namespace Go.Proofs.Ytegmpcjibngboaa
open Go.RowKit

attribute [local go_sem] ite_min ite_max

theorem bTime_plain {now f most d e : Int} (h0 : U now) (hf : 0 ≤ f) (hf' : f ≤ most) (h2 : U most) (h3a : 0 ≤ d) (h3b : d ≤ 4294967295) (h4a : 0 ≤ e) (h4b : e ≤ 4294967295) :
    bfill (usub most f) (now / 4) (now / 4) most = f ∧ bfill (usub most f) (now / 4) (now / 4 + d) most = f - min f d ∧
    bfill (usub most f) (now / 4) (now / 4 + d + e) most = f - min f d - min (f - min f d) e := by
  unfold U at *
  refine ⟨?_, ?_, ?_⟩ <;> (unfold bfill tok uadd usub; omega)

set_option maxHeartbeats 1000000 in
theorem bTime (now fill most d e : Int) (h0 : U now) (h1 : U fill) (h2 : U most) (h3 : 0 ≤ d ∧ d ≤ 4294967295) (h4 : 0 ≤ e ∧ e ≤ 4294967295) (w : World) :
    Calls Try.prog 4 #[.int .u64 now, .int .u64 fill, .int .u64 most, .int .u32 d, .int .u32 e] w fun e w' => e = .returned (.bool true) ∧ Ext w w' := by
  have hmf := min_U h1 h2
  have hml : min fill most ≤ most := by omega
  obtain ⟨f, ef⟩ : ∃ f, min fill most = f := ⟨_, rfl⟩
  rw [ef] at hmf hml
  obtain ⟨E1, E2, E3⟩ := bTime_plain h0 hmf.lo hml h2 h3.1 h3.2 h4.1 h4.2
  have hE1 := Lib.hid E1; have hE2 := Lib.hid E2; have hE3 := Lib.hid E3
  clear E1 E2 E3
  have hA := usub_U h2 hmf
  obtain ⟨A, eA⟩ : ∃ A, usub most f = A := ⟨_, rfl⟩
  rw [eA] at hA hE1 hE2 hE3
  have hX := Lib.hid eA; clear eA
  obtain ⟨h0a, h0b⟩ := h0
  obtain ⟨h2a, h2b⟩ := h2
  obtain ⟨h3a, h3b⟩ := h3
  obtain ⟨h4a, h4b⟩ := h4
  have hfa := hmf.lo
  have hfb := hmf.hi
  go_enter Try.func4, Try.ntmps4
  go_wp2_with fail
  refine (bOf _ _ _ (by unfold U; omega) ⟨h2a, h2b⟩ hmf _).mono ?_
  rintro e1 w1 ⟨rfl, hb1⟩
  rw [hX.out]
  go_wp2_with fail
  refine (bFill 2 A (now / 4) _ most hA (by unfold U; omega) (by unfold U; omega) ⟨h2a, h2b⟩ _).mono ?_
  rintro e2 w2 ⟨rfl, hb2⟩
  rw [hE2.out]
  have z2 : w1.heap.size < w2.heap.size := by have := hb2.size; simp at this; omega
  have s0 : w2.cell? ⟨w1.heap.size, 0, none⟩ = some (.int .u8 2) := hb2.reads (by go_simp)
  have s1 : w2.cell? ⟨w1.heap.size, 1, none⟩ = some (.int .u64 A) := hb2.reads (by go_simp)
  have s2 : w2.cell? ⟨w1.heap.size, 2, none⟩ = some (.int .u64 (now / 4)) := hb2.reads (by go_simp)
  go_wp2_with fail
  refine (bFill 2 A (now / 4) _ most hA (by unfold U; omega) (by unfold U; omega) ⟨h2a, h2b⟩ _).mono ?_
  rintro e3 w3 ⟨rfl, hb3⟩
  rw [hE3.out]
  have z3 : w1.heap.size < w3.heap.size := by have := hb3.size; omega
  have t0 := hb3.reads s0
  have t1 := hb3.reads s1
  have t2 := hb3.reads s2
  go_wp2_with fail
  refine (bKnown _).mono ?_
  rintro e4 w4 ⟨rfl, hb4⟩
  have v0 := hb4.reads t0
  have v1 := hb4.reads t1
  have v2 := hb4.reads t2
  go_wp2_with fail
  refine (bFill 2 A (now / 4) _ most hA (by unfold U; omega) (by unfold U; omega) ⟨h2a, h2b⟩ _).mono ?_
  rintro e5 w5 ⟨rfl, hb5⟩
  rw [hE1.out]
  have u0 := hb5.reads v0
  have u1 := hb5.reads v1
  have u2 := hb5.reads v2
  go_wp2_with fail
  refine (bFill 2 A (now / 4) now most hA (by unfold U; omega) ⟨h0a, h0b⟩ ⟨h2a, h2b⟩ _).mono ?_
  rintro e6 w6 ⟨rfl, hb6⟩
  have hl := bfill_le hA (show U (now / 4) by unfold U; omega) ⟨h0a, h0b⟩ ⟨h2a, h2b⟩
  go_wp2_with fail
  go_ways
  go_ret
  exact ⟨rfl, by repeat (first | exact Ext.refl _ | assumption | apply Ext.drew | apply Ext.alloc | (refine Ext.setCell ?_ (by simp <;> omega) _) | refine Ext.trans ?_ (by assumption))⟩

end Go.Proofs.Ytegmpcjibngboaa
