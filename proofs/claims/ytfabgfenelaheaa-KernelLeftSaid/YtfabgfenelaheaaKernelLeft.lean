/- The walk of the law KernelLeft. -/
import Derived.Test.YtfabgfenelaheaaKernelQ
import Derived.Test.YtfabgfenelaheaaSpecKL
set_option linter.unusedVariables false
namespace Go.Proofs.Ytfabgfenelaheaa
open Go.RowKit

attribute [local go_sem] ite_min ite_max

theorem umul_small {a b : Int} (h0 : 0 ≤ a * b) (h1 : a * b ≤ 18446744073709551615) : umul a b = a * b := by
  unfold umul mulH mulL
  rw [Int.ediv_eq_zero_of_lt h0 (by omega), if_pos rfl, Int.emod_eq_of_lt h0 (by omega)]

theorem wrap_in {a : Int} (h : U a) : IntKind.u64.wrap a = a := by obtain ⟨h0, h1⟩ := h; rw [IntKind.wrap_u64]; omega

set_option maxHeartbeats 1000000 in
theorem kLeftLaw (kind now every burst fill : Int) (hk : 0 ≤ kind ∧ kind ≤ 255) (h1 : U now) (h2 : 0 ≤ every ∧ every ≤ 4294967295) (h3 : 0 ≤ burst ∧ burst ≤ 4294967295) (h4 : 0 ≤ fill ∧ fill ≤ 4294967295) (w : World) :
    Calls Try.prog 12 #[.int .u8 kind, .int .u64 now, .int .u32 every, .int .u32 burst, .int .u32 fill] w fun e w' => e = .returned (.bool true) ∧ Ext w w' := by
  have hK := Kin.of kind
  have hn4 : 0 ≤ now / 4 ∧ now / 4 ≤ 4611686018427387903 := by unfold U at h1; omega
  have hb0 : 0 ≤ burst % 1000 := by omega
  have hb1 : burst % 1000 ≤ 999 := by omega
  have hM := Int.mul_le_mul (show 1 + every ≤ 4294967296 by omega) (show burst % 1000 + 1 ≤ 1000 by omega) (by omega) (by omega)
  have hM0 : 0 ≤ (1 + every) * (burst % 1000 + 1) := Int.mul_nonneg (by omega) (by omega)
  have hmul : umul (1 + every) (burst % 1000 + 1) = (1 + every) * (burst % 1000 + 1) := umul_small hM0 (by omega)
  have hL := fun f hf hm => left_plain (a := now / 4) (t := 1 + every) (b := burst % 1000) (f := f) hK hn4.1 hn4.2 (by omega) (by omega) hb0 hb1 hf hm
  obtain ⟨M, eM⟩ : ∃ M, (1 + every) * (burst % 1000 + 1) = M := ⟨_, rfl⟩
  rw [eM] at hM hM0 hmul hL
  obtain ⟨f, ef⟩ : ∃ f, min fill M = f := ⟨_, rfl⟩
  have hf0 : 0 ≤ f := by omega
  have hfm : f ≤ M := by omega
  have hP := hL f hf0 hfm
  clear hL
  have uf : U f := by unfold U; omega
  have ut : U (now / 4) := by unfold U; omega
  have um : U M := by unfold U; omega
  have uA := oA_U (1 + kind % 3) ut um uf
  have uB := oB_U (1 + kind % 3) ut
  have HO := Lib.hid (And.intro hK.oK hK.oE)
  obtain ⟨A, eA⟩ : ∃ A, oA (1 + kind % 3) (now / 4) M f = A := ⟨_, rfl⟩
  obtain ⟨B, eB⟩ : ∃ B, oB (1 + kind % 3) (now / 4) = B := ⟨_, rfl⟩
  rw [eA] at uA hP
  rw [eB] at uB hP
  have eD : udiv (usub M (fil (1 + kind % 3) A B (now / 4) M)) (1 + every) = usub M (fil (1 + kind % 3) A B (now / 4) M) / (1 + every) := by unfold udiv; rw [if_neg (by omega)]
  obtain ⟨N, eN⟩ : ∃ N, usub M (fil (1 + kind % 3) A B (now / 4) M) / (1 + every) = N := ⟨_, rfl⟩
  rw [eN] at hP eD
  obtain ⟨p1, p2, p3, p4⟩ := hP
  have hx := Int.mul_le_mul (show N ≤ 1000 by omega) (show 1 + every ≤ 4294967296 by omega) (by omega) (by omega)
  have hx0 : 0 ≤ N * (1 + every) := Int.mul_nonneg (by omega) (by omega)
  have hy := Int.mul_le_mul (show N + 1 ≤ 1001 by omega) (show 1 + every ≤ 4294967296 by omega) (by omega) (by omega)
  have hy0 : 0 ≤ (N + 1) * (1 + every) := Int.mul_nonneg (by omega) (by omega)
  have ux : U (N * (1 + every)) := by unfold U; omega
  have uy : U ((N + 1) * (1 + every)) := by unfold U; omega
  have HA := Lib.hid (And.intro eA (And.intro eB (And.intro hmul (And.intro ef eD))))
  have HP := Lib.hid (And.intro p3 p4)
  clear eA eB ef hmul eD eN eM p3 p4 hK hM hx hy
  have wx := Lib.hid (wrap_in ux)
  have wy := Lib.hid (wrap_in uy)
  obtain ⟨h1a, h1b⟩ := h1
  obtain ⟨h2a, h2b⟩ := h2
  obtain ⟨h3a, h3b⟩ := h3
  obtain ⟨h4a, h4b⟩ := h4
  go_enter Try.func12, Try.ntmps12
  go_wp2_with fail
  refine (r2Mul (1 + every) (burst % 1000 + 1) (by unfold U; omega) (by unfold U; omega) _).mono ?_
  rw [HA.out.2.2.1]
  rintro e v1 ⟨rfl, rfl⟩
  go_wp2_with fail
  rw [HA.out.2.2.2.1]
  skip
  refine (kOf (1 + kind % 3) (now / 4) M f ut um uf _).mono ?_
  rw [HO.out.1, HO.out.2, HA.out.1, HA.out.2.1]
  rintro e w2 ⟨rfl, hb2⟩
  go_wp2_with fail
  refine (kLeft (1 + kind % 3) A B (now / 4) M (1 + every) uA uB ut um (by unfold U; omega) _).mono ?_
  rw [HA.out.2.2.2.2]
  rintro e w3 ⟨rfl, hb3⟩
  have s0_3 : w3.cell? ⟨w2.heap.size, 0, none⟩ = some (.int .u8 (1 + kind % 3)) := hb3.reads (by go_simp)
  have s1_3 : w3.cell? ⟨w2.heap.size, 1, none⟩ = some (.int .u64 A) := hb3.reads (by go_simp)
  have s2_3 : w3.cell? ⟨w2.heap.size, 2, none⟩ = some (.int .u64 B) := hb3.reads (by go_simp)
  have zs_3 : w2.heap.size < w3.heap.size := World.block_lt_of_cell? w3 _ s0_3
  go_wp2_with fail
  try rw [wx.out]
  skip
  refine (kDecide (1 + kind % 3) A B (now / 4) M (N * (1 + every)) uA uB ut um ux _).mono ?_
  rw [HP.out.1]
  rintro e w4 ⟨rfl, hb4⟩
  have s0_4 : w4.cell? ⟨w2.heap.size, 0, none⟩ = some (.int .u8 (1 + kind % 3)) := hb4.reads (by go_simp)
  have s1_4 : w4.cell? ⟨w2.heap.size, 1, none⟩ = some (.int .u64 A) := hb4.reads (by go_simp)
  have s2_4 : w4.cell? ⟨w2.heap.size, 2, none⟩ = some (.int .u64 B) := hb4.reads (by go_simp)
  have zs_4 : w2.heap.size < w4.heap.size := World.block_lt_of_cell? w4 _ s0_4
  clear s0_3 s1_3 s2_3 zs_3
  go_wp2_with fail
  try rw [wy.out]
  skip
  refine (kDecide (1 + kind % 3) A B (now / 4) M ((N + 1) * (1 + every)) uA uB ut um uy _).mono ?_
  rw [HP.out.2]
  rintro e w5 ⟨rfl, hb5⟩
  have s0_5 : w5.cell? ⟨w2.heap.size, 0, none⟩ = some (.int .u8 (1 + kind % 3)) := hb5.reads (by go_simp)
  have s1_5 : w5.cell? ⟨w2.heap.size, 1, none⟩ = some (.int .u64 A) := hb5.reads (by go_simp)
  have s2_5 : w5.cell? ⟨w2.heap.size, 2, none⟩ = some (.int .u64 B) := hb5.reads (by go_simp)
  have zs_5 : w2.heap.size < w5.heap.size := World.block_lt_of_cell? w5 _ s0_5
  clear s0_4 s1_4 s2_4 zs_4
  go_wp2_with fail
  refine (kKnown _).mono ?_
  rintro e w6 ⟨rfl, hb6⟩
  have s0_6 : w6.cell? ⟨w2.heap.size, 0, none⟩ = some (.int .u8 (1 + kind % 3)) := hb6.reads (by go_simp)
  have s1_6 : w6.cell? ⟨w2.heap.size, 1, none⟩ = some (.int .u64 A) := hb6.reads (by go_simp)
  have s2_6 : w6.cell? ⟨w2.heap.size, 2, none⟩ = some (.int .u64 B) := hb6.reads (by go_simp)
  have zs_6 : w2.heap.size < w6.heap.size := World.block_lt_of_cell? w6 _ s0_6
  clear s0_5 s1_5 s2_5 zs_5
  go_wp2
  go_ret
  exact ⟨rfl, by repeat (first | exact Ext.refl _ | assumption | apply Ext.drew | apply Ext.alloc | (refine Ext.setCell ?_ (by simp <;> omega) _) | refine Ext.trans ?_ (by assumption))⟩

end Go.Proofs.Ytfabgfenelaheaa
