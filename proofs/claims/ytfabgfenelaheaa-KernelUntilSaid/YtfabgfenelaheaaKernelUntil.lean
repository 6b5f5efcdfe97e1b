/- The walk of the law KernelUntil. -/
import Derived.Test.YtfabgfenelaheaaKernelQ
import Derived.Test.YtfabgfenelaheaaSpecKL
set_option linter.unusedVariables false
namespace Go.Proofs.Ytfabgfenelaheaa
open Go.RowKit

attribute [local go_sem] ite_min ite_max

set_option maxHeartbeats 1000000 in
theorem kUntil0 (kind now most fill : Int) (hk : 0 ≤ kind ∧ kind ≤ 255) (h1 : U now) (h2 : 0 ≤ most ∧ most ≤ 4294967295) (h3 : 0 ≤ fill ∧ fill ≤ 4294967295) (hc : min fill most = 0) (w : World) :
    Calls Try.prog 11 #[.int .u8 kind, .int .u64 now, .int .u32 most, .int .u32 fill] w fun e w' => e = .returned (.bool true) ∧ Ext w w' := by
  have hK := Kin.of kind
  obtain ⟨f, ef⟩ : ∃ f, min fill most = f := ⟨_, rfl⟩
  have hf0 : 0 ≤ f := by omega
  have hfm : f ≤ most := by omega
  have hz : f = 0 := by omega
  have uf : U f := by unfold U; omega
  have ut : U (now / 4) := by unfold U at *; omega
  have um : U most := by unfold U; omega
  have hn4 : 0 ≤ now / 4 ∧ now / 4 ≤ 4611686018427387903 := by unfold U at h1; omega
  have hP := until_plain (a := now / 4) hK hn4.1 hn4.2 hf0 hfm h2.2
  have uA := oA_U (1 + kind % 3) ut um uf
  have uB := oB_U (1 + kind % 3) ut
  have HO := Lib.hid (And.intro hK.oK hK.oE)
  obtain ⟨A, eA⟩ : ∃ A, oA (1 + kind % 3) (now / 4) most f = A := ⟨_, rfl⟩
  obtain ⟨B, eB⟩ : ∃ B, oB (1 + kind % 3) (now / 4) = B := ⟨_, rfl⟩
  rw [eA] at uA hP
  rw [eB] at uB hP
  have HA := Lib.hid (And.intro eA eB)
  have HF := Lib.hid ef
  have HP := Lib.hid (show until' (1 + kind % 3) A B (now / 4) most = 0 by rw [hP.1, if_pos hz])
  clear eA eB ef hP hK
  obtain ⟨h1a, h1b⟩ := h1
  obtain ⟨h2a, h2b⟩ := h2
  obtain ⟨h3a, h3b⟩ := h3
  subst hz
  go_enter Try.func11, Try.ntmps11
  go_wp2_with fail
  try rw [HF.out]
  skip
  refine (kOf (1 + kind % 3) (now / 4) most 0 ut um uf _).mono ?_
  rw [HO.out.1, HO.out.2, HA.out.1, HA.out.2]
  rintro e w1 ⟨rfl, hb1⟩
  go_wp2_with fail
  refine (kUntil (1 + kind % 3) A B (now / 4) most uA uB ut um _).mono ?_
  rw [HP.out]
  rintro e w2 ⟨rfl, hb2⟩
  have s0_2 : w2.cell? ⟨w1.heap.size, 0, none⟩ = some (.int .u8 (1 + kind % 3)) := hb2.reads (by go_simp)
  have s1_2 : w2.cell? ⟨w1.heap.size, 1, none⟩ = some (.int .u64 A) := hb2.reads (by go_simp)
  have s2_2 : w2.cell? ⟨w1.heap.size, 2, none⟩ = some (.int .u64 B) := hb2.reads (by go_simp)
  have zs_2 : w1.heap.size < w2.heap.size := World.block_lt_of_cell? w2 _ s0_2
  go_wp2_with fail
  refine (kKnown _).mono ?_
  rintro e w3 ⟨rfl, hb3⟩
  have s0_3 : w3.cell? ⟨w1.heap.size, 0, none⟩ = some (.int .u8 (1 + kind % 3)) := hb3.reads (by go_simp)
  have s1_3 : w3.cell? ⟨w1.heap.size, 1, none⟩ = some (.int .u64 A) := hb3.reads (by go_simp)
  have s2_3 : w3.cell? ⟨w1.heap.size, 2, none⟩ = some (.int .u64 B) := hb3.reads (by go_simp)
  have zs_3 : w1.heap.size < w3.heap.size := World.block_lt_of_cell? w3 _ s0_3
  clear s0_2 s1_2 s2_2 zs_2
  go_wp2
  go_ret
  exact ⟨rfl, by repeat (first | exact Ext.refl _ | assumption | apply Ext.drew | apply Ext.alloc | (refine Ext.setCell ?_ (by simp <;> omega) _) | refine Ext.trans ?_ (by assumption))⟩

set_option maxHeartbeats 1000000 in
theorem kUntil1 (kind now most fill : Int) (hk : 0 ≤ kind ∧ kind ≤ 255) (h1 : U now) (h2 : 0 ≤ most ∧ most ≤ 4294967295) (h3 : 0 ≤ fill ∧ fill ≤ 4294967295) (hc : 0 < min fill most) (w : World) :
    Calls Try.prog 11 #[.int .u8 kind, .int .u64 now, .int .u32 most, .int .u32 fill] w fun e w' => e = .returned (.bool true) ∧ Ext w w' := by
  have hK := Kin.of kind
  obtain ⟨f, ef⟩ : ∃ f, min fill most = f := ⟨_, rfl⟩
  have hf0 : 0 ≤ f := by omega
  have hfm : f ≤ most := by omega
  have hz : 0 < f := by omega
  have uf : U f := by unfold U; omega
  have ut : U (now / 4) := by unfold U at *; omega
  have um : U most := by unfold U; omega
  have hn4 : 0 ≤ now / 4 ∧ now / 4 ≤ 4611686018427387903 := by unfold U at h1; omega
  have hP := until_plain (a := now / 4) hK hn4.1 hn4.2 hf0 hfm h2.2
  have uA := oA_U (1 + kind % 3) ut um uf
  have uB := oB_U (1 + kind % 3) ut
  have HO := Lib.hid (And.intro hK.oK hK.oE)
  obtain ⟨A, eA⟩ : ∃ A, oA (1 + kind % 3) (now / 4) most f = A := ⟨_, rfl⟩
  obtain ⟨B, eB⟩ : ∃ B, oB (1 + kind % 3) (now / 4) = B := ⟨_, rfl⟩
  rw [eA] at uA hP
  rw [eB] at uB hP
  have HA := Lib.hid (And.intro eA eB)
  have HF := Lib.hid ef
  have HP := Lib.hid (And.intro (show until' (1 + kind % 3) A B (now / 4) most = now / 4 + f by rw [hP.1, if_neg (by omega)]) (hP.2 hz))
  clear eA eB ef hP hK
  obtain ⟨h1a, h1b⟩ := h1
  obtain ⟨h2a, h2b⟩ := h2
  obtain ⟨h3a, h3b⟩ := h3
  go_enter Try.func11, Try.ntmps11
  go_wp2_with fail
  try rw [HF.out]
  skip
  refine (kOf (1 + kind % 3) (now / 4) most f ut um uf _).mono ?_
  rw [HO.out.1, HO.out.2, HA.out.1, HA.out.2]
  rintro e w1 ⟨rfl, hb1⟩
  go_wp2_with fail
  refine (kUntil (1 + kind % 3) A B (now / 4) most uA uB ut um _).mono ?_
  rw [HP.out.1]
  rintro e w2 ⟨rfl, hb2⟩
  have s0_2 : w2.cell? ⟨w1.heap.size, 0, none⟩ = some (.int .u8 (1 + kind % 3)) := hb2.reads (by go_simp)
  have s1_2 : w2.cell? ⟨w1.heap.size, 1, none⟩ = some (.int .u64 A) := hb2.reads (by go_simp)
  have s2_2 : w2.cell? ⟨w1.heap.size, 2, none⟩ = some (.int .u64 B) := hb2.reads (by go_simp)
  have zs_2 : w1.heap.size < w2.heap.size := World.block_lt_of_cell? w2 _ s0_2
  go_wp2_with fail
  refine (kKnown _).mono ?_
  rintro e w3 ⟨rfl, hb3⟩
  have s0_3 : w3.cell? ⟨w1.heap.size, 0, none⟩ = some (.int .u8 (1 + kind % 3)) := hb3.reads (by go_simp)
  have s1_3 : w3.cell? ⟨w1.heap.size, 1, none⟩ = some (.int .u64 A) := hb3.reads (by go_simp)
  have s2_3 : w3.cell? ⟨w1.heap.size, 2, none⟩ = some (.int .u64 B) := hb3.reads (by go_simp)
  have zs_3 : w1.heap.size < w3.heap.size := World.block_lt_of_cell? w3 _ s0_3
  clear s0_2 s1_2 s2_2 zs_2
  go_wp2_with fail
  refine (kFill (1 + kind % 3) A B (now / 4 + f) most uA uB (by unfold U; omega) um _).mono ?_
  rw [HP.out.2.1]
  rintro e w4 ⟨rfl, hb4⟩
  have s0_4 : w4.cell? ⟨w1.heap.size, 0, none⟩ = some (.int .u8 (1 + kind % 3)) := hb4.reads (by go_simp)
  have s1_4 : w4.cell? ⟨w1.heap.size, 1, none⟩ = some (.int .u64 A) := hb4.reads (by go_simp)
  have s2_4 : w4.cell? ⟨w1.heap.size, 2, none⟩ = some (.int .u64 B) := hb4.reads (by go_simp)
  have zs_4 : w1.heap.size < w4.heap.size := World.block_lt_of_cell? w4 _ s0_4
  clear s0_3 s1_3 s2_3 zs_3
  go_wp2_with fail
  refine (kFill (1 + kind % 3) A B (now / 4 + f - 1) most uA uB (by unfold U; omega) um _).mono ?_
  rw [HP.out.2.2]
  rintro e w5 ⟨rfl, hb5⟩
  have s0_5 : w5.cell? ⟨w1.heap.size, 0, none⟩ = some (.int .u8 (1 + kind % 3)) := hb5.reads (by go_simp)
  have s1_5 : w5.cell? ⟨w1.heap.size, 1, none⟩ = some (.int .u64 A) := hb5.reads (by go_simp)
  have s2_5 : w5.cell? ⟨w1.heap.size, 2, none⟩ = some (.int .u64 B) := hb5.reads (by go_simp)
  have zs_5 : w1.heap.size < w5.heap.size := World.block_lt_of_cell? w5 _ s0_5
  clear s0_4 s1_4 s2_4 zs_4
  go_wp2
  go_ret
  exact ⟨rfl, by repeat (first | exact Ext.refl _ | assumption | apply Ext.drew | apply Ext.alloc | (refine Ext.setCell ?_ (by simp <;> omega) _) | refine Ext.trans ?_ (by assumption))⟩

set_option maxHeartbeats 1000000 in
theorem kUntilLaw (kind now most fill : Int) (hk : 0 ≤ kind ∧ kind ≤ 255) (h1 : U now) (h2 : 0 ≤ most ∧ most ≤ 4294967295) (h3 : 0 ≤ fill ∧ fill ≤ 4294967295) (w : World) :
    Calls Try.prog 11 #[.int .u8 kind, .int .u64 now, .int .u32 most, .int .u32 fill] w fun e w' => e = .returned (.bool true) ∧ Ext w w' := by
  by_cases hc : min fill most = 0
  · exact kUntil0 kind now most fill hk h1 h2 h3 hc w
  · exact kUntil1 kind now most fill hk h1 h2 h3 (by omega) w

end Go.Proofs.Ytfabgfenelaheaa
