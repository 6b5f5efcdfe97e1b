/- The walk of the law KernelAsks. -/
import Derived.Test.YtfabgfenelaheaaKernelAsk
import Derived.Test.YtfabgfenelaheaaSpecKL
import Derived.IntWalk
set_option linter.unusedVariables false
namespace Go.Proofs.Ytfabgfenelaheaa
open Go.RowKit

attribute [local go_sem] ite_min ite_max

set_option maxHeartbeats 1000000 in
theorem kAsksLaw (k0 A0 B0 kind now most v every k a b c d : Int) (h0 : 0 ≤ k0 ∧ k0 ≤ 255) (hA : U A0) (hB : U B0) (hi : 0 ≤ kind ∧ kind ≤ 255) (hn : U now) (hm : U most) (hv : U v) (he : U every) (hk : 0 ≤ k ∧ k ≤ 255)
    (ha : 0 ≤ a ∧ a ≤ 65535) (hb : 0 ≤ b ∧ b ≤ 65535) (hc : 0 ≤ c ∧ c ≤ 65535) (hd : 0 ≤ d ∧ d ≤ 65535) (w : World) :
    Calls Try.prog 16 #[.agg #[.int .u8 k0, .int .u64 A0, .int .u64 B0], .int .u8 kind, .int .u64 now, .int .u64 most, .int .u64 v, .int .u64 every, .int .u8 k, .int .u16 a, .int .u16 b, .int .u16 c, .int .u16 d] w
      fun e w' => e = .returned (.bool true) ∧ Ext w w' := by
  obtain ⟨hv1, hv2⟩ := hv
  obtain ⟨hm1, hm2⟩ := hm
  obtain ⟨he1, he2⟩ := he
  obtain ⟨hk1, hk2⟩ := hk
  obtain ⟨hi1, hi2⟩ := hi
  obtain ⟨ha1, ha2⟩ := ha
  obtain ⟨hb1, hb2⟩ := hb
  obtain ⟨hc1, hc2⟩ := hc
  obtain ⟨hd1, hd2⟩ := hd
  go_enter Try.func16, Try.ntmps16
  go_wp2_with fail
  refine (kKnown _).mono ?_
  rintro e w1 ⟨rfl, hb1⟩
  have s0_1 : w1.cell? ⟨w.heap.size, 0, none⟩ = some (.int .u8 k0) := hb1.reads (by go_simp)
  have s1_1 : w1.cell? ⟨w.heap.size, 1, none⟩ = some (.int .u64 A0) := hb1.reads (by go_simp)
  have s2_1 : w1.cell? ⟨w.heap.size, 2, none⟩ = some (.int .u64 B0) := hb1.reads (by go_simp)
  have zs_1 : w.heap.size < w1.heap.size := World.block_lt_of_cell? w1 _ s0_1
  have o0_1 : w1.cell? ⟨w.heap.size + 1, 0, none⟩ = some (.int .u8 (k % 5)) := hb1.reads (by go_simp)
  have o1_1 : w1.cell? ⟨w.heap.size + 1, 1, none⟩ = some (.int .u64 a) := hb1.reads (by go_simp)
  have o2_1 : w1.cell? ⟨w.heap.size + 1, 2, none⟩ = some (.int .u64 b) := hb1.reads (by go_simp)
  have zo_1 : w.heap.size + 1 < w1.heap.size := World.block_lt_of_cell? w1 _ o0_1
  have t0_1 : w1.cell? ⟨w.heap.size + 2, 0, none⟩ = some (.int .u8 (1 + k % 3)) := hb1.reads (by go_simp)
  have t1_1 : w1.cell? ⟨w.heap.size + 2, 1, none⟩ = some (.int .u64 A0) := hb1.reads (by go_simp)
  have t2_1 : w1.cell? ⟨w.heap.size + 2, 2, none⟩ = some (.int .u64 B0) := hb1.reads (by go_simp)
  have zt_1 : w.heap.size + 2 < w1.heap.size := World.block_lt_of_cell? w1 _ t0_1
  go_wp2_with fail
  refine (kAsks k0 A0 B0 kind now most v every hA hB hn ⟨hm1, hm2⟩ ⟨hv1, hv2⟩ ⟨he1, he2⟩ _).mono ?_
  rintro e w2 ⟨rfl, hb2⟩
  have s0_2 : w2.cell? ⟨w.heap.size, 0, none⟩ = some (.int .u8 k0) := hb2.reads (by go_simp)
  have s1_2 : w2.cell? ⟨w.heap.size, 1, none⟩ = some (.int .u64 A0) := hb2.reads (by go_simp)
  have s2_2 : w2.cell? ⟨w.heap.size, 2, none⟩ = some (.int .u64 B0) := hb2.reads (by go_simp)
  have zs_2 : w.heap.size < w2.heap.size := World.block_lt_of_cell? w2 _ s0_2
  have o0_2 : w2.cell? ⟨w.heap.size + 1, 0, none⟩ = some (.int .u8 (k % 5)) := hb2.reads (by go_simp)
  have o1_2 : w2.cell? ⟨w.heap.size + 1, 1, none⟩ = some (.int .u64 a) := hb2.reads (by go_simp)
  have o2_2 : w2.cell? ⟨w.heap.size + 1, 2, none⟩ = some (.int .u64 b) := hb2.reads (by go_simp)
  have zo_2 : w.heap.size + 1 < w2.heap.size := World.block_lt_of_cell? w2 _ o0_2
  have t0_2 : w2.cell? ⟨w.heap.size + 2, 0, none⟩ = some (.int .u8 (1 + k % 3)) := hb2.reads (by go_simp)
  have t1_2 : w2.cell? ⟨w.heap.size + 2, 1, none⟩ = some (.int .u64 A0) := hb2.reads (by go_simp)
  have t2_2 : w2.cell? ⟨w.heap.size + 2, 2, none⟩ = some (.int .u64 B0) := hb2.reads (by go_simp)
  have zt_2 : w.heap.size + 2 < w2.heap.size := World.block_lt_of_cell? w2 _ t0_2
  clear s0_1 s1_1 s2_1 zs_1 o0_1 o1_1 o2_1 zo_1 t0_1 t1_1 t2_1 zt_1
  go_wp2_with fail
  refine (kAsks (k % 5) a b (kind % 5) c d _ _ (by unfold U; omega) (by unfold U; omega) (by unfold U; omega) (by unfold U; omega) (shr_U ⟨hv1, hv2⟩ _) (shr_U ⟨he1, he2⟩ _) _).mono ?_
  rintro e w3 ⟨rfl, hb3⟩
  have s0_3 : w3.cell? ⟨w.heap.size, 0, none⟩ = some (.int .u8 k0) := hb3.reads (by go_simp)
  have s1_3 : w3.cell? ⟨w.heap.size, 1, none⟩ = some (.int .u64 A0) := hb3.reads (by go_simp)
  have s2_3 : w3.cell? ⟨w.heap.size, 2, none⟩ = some (.int .u64 B0) := hb3.reads (by go_simp)
  have zs_3 : w.heap.size < w3.heap.size := World.block_lt_of_cell? w3 _ s0_3
  have o0_3 : w3.cell? ⟨w.heap.size + 1, 0, none⟩ = some (.int .u8 (k % 5)) := hb3.reads (by go_simp)
  have o1_3 : w3.cell? ⟨w.heap.size + 1, 1, none⟩ = some (.int .u64 a) := hb3.reads (by go_simp)
  have o2_3 : w3.cell? ⟨w.heap.size + 1, 2, none⟩ = some (.int .u64 b) := hb3.reads (by go_simp)
  have zo_3 : w.heap.size + 1 < w3.heap.size := World.block_lt_of_cell? w3 _ o0_3
  have t0_3 : w3.cell? ⟨w.heap.size + 2, 0, none⟩ = some (.int .u8 (1 + k % 3)) := hb3.reads (by go_simp)
  have t1_3 : w3.cell? ⟨w.heap.size + 2, 1, none⟩ = some (.int .u64 A0) := hb3.reads (by go_simp)
  have t2_3 : w3.cell? ⟨w.heap.size + 2, 2, none⟩ = some (.int .u64 B0) := hb3.reads (by go_simp)
  have zt_3 : w.heap.size + 2 < w3.heap.size := World.block_lt_of_cell? w3 _ t0_3
  clear s0_2 s1_2 s2_2 zs_2 o0_2 o1_2 o2_2 zo_2 t0_2 t1_2 t2_2 zt_2
  go_wp2_with fail
  refine (kAsks (1 + k % 3) A0 B0 (kind % 4) now most _ 7 hA hB hn ⟨hm1, hm2⟩ (shr_U ⟨hm1, hm2⟩ _) (by unfold U; omega) _).mono ?_
  rintro e w4 ⟨rfl, hb4⟩
  have s0_4 : w4.cell? ⟨w.heap.size, 0, none⟩ = some (.int .u8 k0) := hb4.reads (by go_simp)
  have s1_4 : w4.cell? ⟨w.heap.size, 1, none⟩ = some (.int .u64 A0) := hb4.reads (by go_simp)
  have s2_4 : w4.cell? ⟨w.heap.size, 2, none⟩ = some (.int .u64 B0) := hb4.reads (by go_simp)
  have zs_4 : w.heap.size < w4.heap.size := World.block_lt_of_cell? w4 _ s0_4
  have o0_4 : w4.cell? ⟨w.heap.size + 1, 0, none⟩ = some (.int .u8 (k % 5)) := hb4.reads (by go_simp)
  have o1_4 : w4.cell? ⟨w.heap.size + 1, 1, none⟩ = some (.int .u64 a) := hb4.reads (by go_simp)
  have o2_4 : w4.cell? ⟨w.heap.size + 1, 2, none⟩ = some (.int .u64 b) := hb4.reads (by go_simp)
  have zo_4 : w.heap.size + 1 < w4.heap.size := World.block_lt_of_cell? w4 _ o0_4
  have t0_4 : w4.cell? ⟨w.heap.size + 2, 0, none⟩ = some (.int .u8 (1 + k % 3)) := hb4.reads (by go_simp)
  have t1_4 : w4.cell? ⟨w.heap.size + 2, 1, none⟩ = some (.int .u64 A0) := hb4.reads (by go_simp)
  have t2_4 : w4.cell? ⟨w.heap.size + 2, 2, none⟩ = some (.int .u64 B0) := hb4.reads (by go_simp)
  have zt_4 : w.heap.size + 2 < w4.heap.size := World.block_lt_of_cell? w4 _ t0_4
  clear s0_3 s1_3 s2_3 zs_3 o0_3 o1_3 o2_3 zo_3 t0_3 t1_3 t2_3 zt_3
  go_wp2_with fail
  refine (kRight kind _).mono ?_
  rintro e w5 ⟨rfl, hb5⟩
  have s0_5 : w5.cell? ⟨w.heap.size, 0, none⟩ = some (.int .u8 k0) := hb5.reads (by go_simp)
  have s1_5 : w5.cell? ⟨w.heap.size, 1, none⟩ = some (.int .u64 A0) := hb5.reads (by go_simp)
  have s2_5 : w5.cell? ⟨w.heap.size, 2, none⟩ = some (.int .u64 B0) := hb5.reads (by go_simp)
  have zs_5 : w.heap.size < w5.heap.size := World.block_lt_of_cell? w5 _ s0_5
  have o0_5 : w5.cell? ⟨w.heap.size + 1, 0, none⟩ = some (.int .u8 (k % 5)) := hb5.reads (by go_simp)
  have o1_5 : w5.cell? ⟨w.heap.size + 1, 1, none⟩ = some (.int .u64 a) := hb5.reads (by go_simp)
  have o2_5 : w5.cell? ⟨w.heap.size + 1, 2, none⟩ = some (.int .u64 b) := hb5.reads (by go_simp)
  have zo_5 : w.heap.size + 1 < w5.heap.size := World.block_lt_of_cell? w5 _ o0_5
  have t0_5 : w5.cell? ⟨w.heap.size + 2, 0, none⟩ = some (.int .u8 (1 + k % 3)) := hb5.reads (by go_simp)
  have t1_5 : w5.cell? ⟨w.heap.size + 2, 1, none⟩ = some (.int .u64 A0) := hb5.reads (by go_simp)
  have t2_5 : w5.cell? ⟨w.heap.size + 2, 2, none⟩ = some (.int .u64 B0) := hb5.reads (by go_simp)
  have zt_5 : w.heap.size + 2 < w5.heap.size := World.block_lt_of_cell? w5 _ t0_5
  clear s0_4 s1_4 s2_4 zs_4 o0_4 o1_4 o2_4 zo_4 t0_4 t1_4 t2_4 zt_4
  go_wp2_with fail
  refine (q7Right kind _).mono ?_
  rintro e v6 ⟨rfl, rfl⟩
  go_wp2
  go_ret
  exact ⟨rfl, by repeat (first | exact Ext.refl _ | assumption | apply Ext.drew | apply Ext.alloc | (refine Ext.setCell ?_ (by simp <;> omega) _) | refine Ext.trans ?_ (by assumption))⟩

end Go.Proofs.Ytfabgfenelaheaa
