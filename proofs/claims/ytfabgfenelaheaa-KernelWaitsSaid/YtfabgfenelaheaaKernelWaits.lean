/- The walk of the law KernelWaits. -/
import Derived.Test.YtfabgfenelaheaaKernelQ
import Derived.Test.YtfabgfenelaheaaSpecKL
set_option linter.unusedVariables false
namespace Go.Proofs.Ytfabgfenelaheaa
open Go.RowKit

attribute [local go_sem] ite_min ite_max

set_option maxHeartbeats 1000000 in
theorem kWaitsLaw (kind now most fill v k : Int) (hk : 0 ≤ kind ∧ kind ≤ 255) (h1 : U now) (h2 : U most) (h3 : U fill) (h4 : U v) (h5 : 0 ≤ k ∧ k ≤ 255) (w : World) :
    Calls Try.prog 15 #[.int .u8 kind, .int .u64 now, .int .u64 most, .int .u64 fill, .int .u64 v, .int .u8 k] w fun e w' => e = .returned (.bool true) ∧ Ext w w' := by
  have hK := Kin.of kind
  have h3' := shr_U h3 (k % 64).toNat
  have h4' := shr_U h4 (k % 64).toNat
  obtain ⟨x, ex⟩ : ∃ x, v / 2 ^ (k % 64).toNat = x := ⟨_, rfl⟩
  obtain ⟨y, ey⟩ : ∃ y, fill / 2 ^ (k % 64).toNat = y := ⟨_, rfl⟩
  rw [ex] at h4'
  rw [ey] at h3'
  obtain ⟨f, ef⟩ : ∃ f, min y (most / 4) = f := ⟨_, rfl⟩
  have hn4 : 0 ≤ now / 4 ∧ now / 4 ≤ 4611686018427387903 := by unfold U at h1; omega
  have hm4 : 0 ≤ most / 4 ∧ most / 4 ≤ 4611686018427387903 := by unfold U at h2; omega
  have hf0 : 0 ≤ f := by unfold U at *; omega
  have hfm : f ≤ most / 4 := by omega
  have uf : U f := by unfold U; omega
  have ut : U (now / 4) := by unfold U; omega
  have um : U (most / 4) := by unfold U; omega
  have uA := oA_U (1 + kind % 3) ut um uf
  have uB := oB_U (1 + kind % 3) ut
  have HO := Lib.hid (And.intro hK.oK hK.oE)
  have hP := wait_plain (a := now / 4) (v := x) hK hn4.1 hn4.2 hf0 hfm hm4.2 h4'.1
  obtain ⟨A, eA⟩ : ∃ A, oA (1 + kind % 3) (now / 4) (most / 4) f = A := ⟨_, rfl⟩
  obtain ⟨B, eB⟩ : ∃ B, oB (1 + kind % 3) (now / 4) = B := ⟨_, rfl⟩
  rw [eA] at uA hP
  rw [eB] at uB hP
  have HA := Lib.hid (And.intro eA eB)
  have HF := Lib.hid ef
  have HX := Lib.hid (And.intro ex ey)
  clear eA eB ef ex ey hK
  obtain ⟨h1a, h1b⟩ := h1
  obtain ⟨h2a, h2b⟩ := h2
  obtain ⟨h4a, h4b⟩ := h4'
  rcases hP with ⟨p1, p2, p3⟩ | ⟨p1, p2, p3, p4, p5, p6, p7⟩
  · have HP := Lib.hid (And.intro p1 (And.intro p2 p3))
    clear p1 p2 p3
    go_enter Try.func15, Try.ntmps15
    go_wp2_with fail
    rw [HX.out.2, HF.out]
    skip
    refine (kOf (1 + kind % 3) (now / 4) (most / 4) f ut um uf _).mono ?_
    rw [HO.out.1, HO.out.2, HA.out.1, HA.out.2]
    rintro e w1 ⟨rfl, hb1⟩
    go_wp2_with fail
    try rw [HX.out.1]
    skip
    refine (kWait (1 + kind % 3) A B (now / 4) (most / 4) x uA uB ut um ⟨h4a, h4b⟩ _).mono ?_
    rw [HP.out.1, HP.out.2.1]
    rintro e w2 ⟨rfl, hb2⟩
    have s0_2 : w2.cell? ⟨w1.heap.size, 0, none⟩ = some (.int .u8 (1 + kind % 3)) := hb2.reads (by go_simp)
    have s1_2 : w2.cell? ⟨w1.heap.size, 1, none⟩ = some (.int .u64 A) := hb2.reads (by go_simp)
    have s2_2 : w2.cell? ⟨w1.heap.size, 2, none⟩ = some (.int .u64 B) := hb2.reads (by go_simp)
    have zs_2 : w1.heap.size < w2.heap.size := World.block_lt_of_cell? w2 _ s0_2
    go_wp2_with fail
    try rw [HX.out.1]
    skip
    refine (kDecide (1 + kind % 3) A B (now / 4) (most / 4) x uA uB (by unfold U; omega) um ⟨h4a, h4b⟩ _).mono ?_
    rw [HP.out.2.2]
    rintro e w3 ⟨rfl, hb3⟩
    have s0_3 : w3.cell? ⟨w1.heap.size, 0, none⟩ = some (.int .u8 (1 + kind % 3)) := hb3.reads (by go_simp)
    have s1_3 : w3.cell? ⟨w1.heap.size, 1, none⟩ = some (.int .u64 A) := hb3.reads (by go_simp)
    have s2_3 : w3.cell? ⟨w1.heap.size, 2, none⟩ = some (.int .u64 B) := hb3.reads (by go_simp)
    have zs_3 : w1.heap.size < w3.heap.size := World.block_lt_of_cell? w3 _ s0_3
    clear s0_2 s1_2 s2_2 zs_2
    go_wp2_with fail
    refine (kKnown _).mono ?_
    rintro e w4 ⟨rfl, hb4⟩
    have s0_4 : w4.cell? ⟨w1.heap.size, 0, none⟩ = some (.int .u8 (1 + kind % 3)) := hb4.reads (by go_simp)
    have s1_4 : w4.cell? ⟨w1.heap.size, 1, none⟩ = some (.int .u64 A) := hb4.reads (by go_simp)
    have s2_4 : w4.cell? ⟨w1.heap.size, 2, none⟩ = some (.int .u64 B) := hb4.reads (by go_simp)
    have zs_4 : w1.heap.size < w4.heap.size := World.block_lt_of_cell? w4 _ s0_4
    clear s0_3 s1_3 s2_3 zs_3
    go_wp2
    go_ret
    exact ⟨rfl, by repeat (first | exact Ext.refl _ | assumption | apply Ext.drew | apply Ext.alloc | (refine Ext.setCell ?_ (by simp <;> omega) _) | refine Ext.trans ?_ (by assumption))⟩
  · obtain ⟨D, eD⟩ : ∃ D, f - (most / 4 - x) = D := ⟨_, rfl⟩
    rw [eD] at p2 p4 p5 p6 p7
    have HP := Lib.hid (And.intro p1 (And.intro p2 (And.intro p3 (And.intro p6 p7))))
    clear p1 p2 p3 p6 p7 eD
    go_enter Try.func15, Try.ntmps15
    go_wp2_with fail
    rw [HX.out.2, HF.out]
    skip
    refine (kOf (1 + kind % 3) (now / 4) (most / 4) f ut um uf _).mono ?_
    rw [HO.out.1, HO.out.2, HA.out.1, HA.out.2]
    rintro e w1 ⟨rfl, hb1⟩
    go_wp2_with fail
    try rw [HX.out.1]
    skip
    refine (kWait (1 + kind % 3) A B (now / 4) (most / 4) x uA uB ut um ⟨h4a, h4b⟩ _).mono ?_
    rw [HP.out.1, HP.out.2.1]
    rintro e w2 ⟨rfl, hb2⟩
    have s0_2 : w2.cell? ⟨w1.heap.size, 0, none⟩ = some (.int .u8 (1 + kind % 3)) := hb2.reads (by go_simp)
    have s1_2 : w2.cell? ⟨w1.heap.size, 1, none⟩ = some (.int .u64 A) := hb2.reads (by go_simp)
    have s2_2 : w2.cell? ⟨w1.heap.size, 2, none⟩ = some (.int .u64 B) := hb2.reads (by go_simp)
    have zs_2 : w1.heap.size < w2.heap.size := World.block_lt_of_cell? w2 _ s0_2
    go_wp2_with fail
    try rw [HX.out.1]
    skip
    refine (kDecide (1 + kind % 3) A B (now / 4) (most / 4) x uA uB (by unfold U; omega) um ⟨h4a, h4b⟩ _).mono ?_
    rw [HP.out.2.2.1]
    rintro e w3 ⟨rfl, hb3⟩
    have s0_3 : w3.cell? ⟨w1.heap.size, 0, none⟩ = some (.int .u8 (1 + kind % 3)) := hb3.reads (by go_simp)
    have s1_3 : w3.cell? ⟨w1.heap.size, 1, none⟩ = some (.int .u64 A) := hb3.reads (by go_simp)
    have s2_3 : w3.cell? ⟨w1.heap.size, 2, none⟩ = some (.int .u64 B) := hb3.reads (by go_simp)
    have zs_3 : w1.heap.size < w3.heap.size := World.block_lt_of_cell? w3 _ s0_3
    clear s0_2 s1_2 s2_2 zs_2
    go_wp2_with fail
    try rw [HX.out.1]
    skip
    refine (kDecide (1 + kind % 3) A B (now / 4 + D) (most / 4) x uA uB (by unfold U; omega) um ⟨h4a, h4b⟩ _).mono ?_
    rw [HP.out.2.2.2.1]
    rintro e w4 ⟨rfl, hb4⟩
    have s0_4 : w4.cell? ⟨w1.heap.size, 0, none⟩ = some (.int .u8 (1 + kind % 3)) := hb4.reads (by go_simp)
    have s1_4 : w4.cell? ⟨w1.heap.size, 1, none⟩ = some (.int .u64 A) := hb4.reads (by go_simp)
    have s2_4 : w4.cell? ⟨w1.heap.size, 2, none⟩ = some (.int .u64 B) := hb4.reads (by go_simp)
    have zs_4 : w1.heap.size < w4.heap.size := World.block_lt_of_cell? w4 _ s0_4
    clear s0_3 s1_3 s2_3 zs_3
    go_wp2_with fail
    try rw [HX.out.1]
    skip
    refine (kDecide (1 + kind % 3) A B (now / 4 + D - 1) (most / 4) x uA uB (by unfold U; omega) um ⟨h4a, h4b⟩ _).mono ?_
    rw [HP.out.2.2.2.2]
    rintro e w5 ⟨rfl, hb5⟩
    have s0_5 : w5.cell? ⟨w1.heap.size, 0, none⟩ = some (.int .u8 (1 + kind % 3)) := hb5.reads (by go_simp)
    have s1_5 : w5.cell? ⟨w1.heap.size, 1, none⟩ = some (.int .u64 A) := hb5.reads (by go_simp)
    have s2_5 : w5.cell? ⟨w1.heap.size, 2, none⟩ = some (.int .u64 B) := hb5.reads (by go_simp)
    have zs_5 : w1.heap.size < w5.heap.size := World.block_lt_of_cell? w5 _ s0_5
    clear s0_4 s1_4 s2_4 zs_4
    go_wp2_with fail
    refine (kKnown _).mono ?_
    rintro e w6 ⟨rfl, hb6⟩
    have s0_6 : w6.cell? ⟨w1.heap.size, 0, none⟩ = some (.int .u8 (1 + kind % 3)) := hb6.reads (by go_simp)
    have s1_6 : w6.cell? ⟨w1.heap.size, 1, none⟩ = some (.int .u64 A) := hb6.reads (by go_simp)
    have s2_6 : w6.cell? ⟨w1.heap.size, 2, none⟩ = some (.int .u64 B) := hb6.reads (by go_simp)
    have zs_6 : w1.heap.size < w6.heap.size := World.block_lt_of_cell? w6 _ s0_6
    clear s0_5 s1_5 s2_5 zs_5
    go_wp2
    go_ret
    exact ⟨rfl, by repeat (first | exact Ext.refl _ | assumption | apply Ext.drew | apply Ext.alloc | (refine Ext.setCell ?_ (by simp <;> omega) _) | refine Ext.trans ?_ (by assumption))⟩

end Go.Proofs.Ytfabgfenelaheaa
