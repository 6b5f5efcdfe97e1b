/- The walk of what KernelAsks asks. -/
import Derived.Test.YtfabgfenelaheaaKernelQ
import Derived.Test.YtfabgfenelaheaaSpecKL
import Derived.IntWalk
set_option linter.unusedVariables false
namespace Go.Proofs.Ytfabgfenelaheaa
open Go.RowKit

attribute [local go_sem] ite_min ite_max

set_option maxRecDepth 20000 in
set_option maxHeartbeats 2000000 in
theorem kAsks (k A B kind now most v every : Int) (hA : U A) (hB : U B) (hn : U now) (hm : U most) (hv : U v) (hv2 : U every) (w : World) :
    Calls Try.prog 39 #[.agg #[.int .u8 k, .int .u64 A, .int .u64 B], .int .u8 kind, .int .u64 now, .int .u64 most, .int .u64 v, .int .u64 every] w fun e w' => e = .returned (.bool true) ∧ Ext w w' := by
  have bE2 : 0 ≤ oE kind ∧ oE kind ≤ 27 := by
    unfold oE
    repeat' split
    all_goals omega
  have bE3 : 0 ≤ mE k kind ∧ mE k kind ≤ 27 := by
    unfold mE; split
    · exact bE2
    · omega
  obtain ⟨K1, eK1⟩ : ∃ x, dK k A B now most v = x := ⟨_, rfl⟩
  obtain ⟨A1, eA1⟩ : ∃ x, dA k A B now most v = x := ⟨_, rfl⟩
  obtain ⟨B1, eB1⟩ : ∃ x, dB k A B now most v = x := ⟨_, rfl⟩
  obtain ⟨O1, eO1⟩ : ∃ x, dok k A B now most v = x := ⟨_, rfl⟩
  obtain ⟨K2, eK2⟩ : ∃ x, oK kind = x := ⟨_, rfl⟩
  obtain ⟨A2, eA2⟩ : ∃ x, oA kind now most v = x := ⟨_, rfl⟩
  obtain ⟨B2, eB2⟩ : ∃ x, oB kind now = x := ⟨_, rfl⟩
  obtain ⟨E2, eE2⟩ : ∃ x, oE kind = x := ⟨_, rfl⟩
  obtain ⟨K3, eK3⟩ : ∃ x, mK k kind = x := ⟨_, rfl⟩
  obtain ⟨A3, eA3⟩ : ∃ x, mA k A B kind now most = x := ⟨_, rfl⟩
  obtain ⟨B3, eB3⟩ : ∃ x, mB k kind now = x := ⟨_, rfl⟩
  obtain ⟨E3, eE3⟩ : ∃ x, mE k kind = x := ⟨_, rfl⟩
  obtain ⟨D4, eD4⟩ : ∃ x, wD k A B now most v = x := ⟨_, rfl⟩
  obtain ⟨O4, eO4⟩ : ∃ x, wOk k A B now most v = x := ⟨_, rfl⟩
  rw [eE2] at bE2
  rw [eE3] at bE3
  obtain ⟨bE2a, bE2b⟩ := bE2
  obtain ⟨bE3a, bE3b⟩ := bE3
  have HK1 := Lib.hid eK1
  have HA1 := Lib.hid eA1
  have HB1 := Lib.hid eB1
  have HO1 := Lib.hid eO1
  have HK2 := Lib.hid eK2
  have HA2 := Lib.hid eA2
  have HB2 := Lib.hid eB2
  have HE2 := Lib.hid eE2
  have HK3 := Lib.hid eK3
  have HA3 := Lib.hid eA3
  have HB3 := Lib.hid eB3
  have HE3 := Lib.hid eE3
  have HD4 := Lib.hid eD4
  have HO4 := Lib.hid eO4
  clear eK1 eA1 eB1 eO1 eK2 eA2 eB2 eE2 eK3 eA3 eB3 eE3 eD4 eO4
  go_enter Try.func39, Try.ntmps39
  simp only [List.append_eq, List.cons_append, List.nil_append]
  go_wp2_with fail
  refine (kDecide k A B now most v hA hB hn hm hv _).mono ?_
  rw [HK1.out, HA1.out, HB1.out, HO1.out]
  rintro e w1 ⟨rfl, hb1⟩
  have s0_1 : w1.cell? ⟨w.heap.size, 0, none⟩ = some (.int .u8 k) := hb1.reads (by go_simp)
  have s1_1 : w1.cell? ⟨w.heap.size, 1, none⟩ = some (.int .u64 A) := hb1.reads (by go_simp)
  have s2_1 : w1.cell? ⟨w.heap.size, 2, none⟩ = some (.int .u64 B) := hb1.reads (by go_simp)
  have zs_1 : w.heap.size < w1.heap.size := World.block_lt_of_cell? w1 _ s0_1
  go_wp2_with fail
  refine (q7Decide k A B now most v hA hB hn hm hv _).mono ?_
  rw [HK1.out, HA1.out, HB1.out, HO1.out]
  rintro e w2 ⟨rfl, hb2⟩
  have s0_2 : w2.cell? ⟨w.heap.size, 0, none⟩ = some (.int .u8 k) := hb2.reads (by go_simp)
  have s1_2 : w2.cell? ⟨w.heap.size, 1, none⟩ = some (.int .u64 A) := hb2.reads (by go_simp)
  have s2_2 : w2.cell? ⟨w.heap.size, 2, none⟩ = some (.int .u64 B) := hb2.reads (by go_simp)
  have zs_2 : w.heap.size < w2.heap.size := World.block_lt_of_cell? w2 _ s0_2
  have t0_2 : w2.cell? ⟨w1.heap.size, 0, none⟩ = some (.int .u8 K1) := hb2.reads (by go_simp)
  have t1_2 : w2.cell? ⟨w1.heap.size, 1, none⟩ = some (.int .u64 A1) := hb2.reads (by go_simp)
  have t2_2 : w2.cell? ⟨w1.heap.size, 2, none⟩ = some (.int .u64 B1) := hb2.reads (by go_simp)
  have zt_2 : w1.heap.size < w2.heap.size := World.block_lt_of_cell? w2 _ t0_2
  clear s0_1 s1_1 s2_1 zs_1
  go_wp2_with fail
  refine (kOf kind now most v hn hm hv _).mono ?_
  rw [HK2.out, HA2.out, HB2.out, HE2.out]
  rintro e w3 ⟨rfl, hb3⟩
  have s0_3 : w3.cell? ⟨w.heap.size, 0, none⟩ = some (.int .u8 k) := hb3.reads (by go_simp)
  have s1_3 : w3.cell? ⟨w.heap.size, 1, none⟩ = some (.int .u64 A) := hb3.reads (by go_simp)
  have s2_3 : w3.cell? ⟨w.heap.size, 2, none⟩ = some (.int .u64 B) := hb3.reads (by go_simp)
  have zs_3 : w.heap.size < w3.heap.size := World.block_lt_of_cell? w3 _ s0_3
  have t0_3 : w3.cell? ⟨w1.heap.size, 0, none⟩ = some (.int .u8 K1) := hb3.reads (by go_simp)
  have t1_3 : w3.cell? ⟨w1.heap.size, 1, none⟩ = some (.int .u64 A1) := hb3.reads (by go_simp)
  have t2_3 : w3.cell? ⟨w1.heap.size, 2, none⟩ = some (.int .u64 B1) := hb3.reads (by go_simp)
  have zt_3 : w1.heap.size < w3.heap.size := World.block_lt_of_cell? w3 _ t0_3
  have u0_3 : w3.cell? ⟨w2.heap.size, 0, none⟩ = some (.int .u8 K1) := hb3.reads (by go_simp)
  have u1_3 : w3.cell? ⟨w2.heap.size, 1, none⟩ = some (.int .u64 A1) := hb3.reads (by go_simp)
  have u2_3 : w3.cell? ⟨w2.heap.size, 2, none⟩ = some (.int .u64 B1) := hb3.reads (by go_simp)
  have zu_3 : w2.heap.size < w3.heap.size := World.block_lt_of_cell? w3 _ u0_3
  clear s0_2 s1_2 s2_2 zs_2 t0_2 t1_2 t2_2 zt_2
  go_wp2_with fail
  refine (q7Of kind now most v hn hm hv _).mono ?_
  rw [HK2.out, HA2.out, HB2.out, HE2.out]
  rintro e w4 ⟨rfl, hb4⟩
  have s0_4 : w4.cell? ⟨w.heap.size, 0, none⟩ = some (.int .u8 k) := hb4.reads (by go_simp)
  have s1_4 : w4.cell? ⟨w.heap.size, 1, none⟩ = some (.int .u64 A) := hb4.reads (by go_simp)
  have s2_4 : w4.cell? ⟨w.heap.size, 2, none⟩ = some (.int .u64 B) := hb4.reads (by go_simp)
  have zs_4 : w.heap.size < w4.heap.size := World.block_lt_of_cell? w4 _ s0_4
  have t0_4 : w4.cell? ⟨w1.heap.size, 0, none⟩ = some (.int .u8 K1) := hb4.reads (by go_simp)
  have t1_4 : w4.cell? ⟨w1.heap.size, 1, none⟩ = some (.int .u64 A1) := hb4.reads (by go_simp)
  have t2_4 : w4.cell? ⟨w1.heap.size, 2, none⟩ = some (.int .u64 B1) := hb4.reads (by go_simp)
  have zt_4 : w1.heap.size < w4.heap.size := World.block_lt_of_cell? w4 _ t0_4
  have u0_4 : w4.cell? ⟨w2.heap.size, 0, none⟩ = some (.int .u8 K1) := hb4.reads (by go_simp)
  have u1_4 : w4.cell? ⟨w2.heap.size, 1, none⟩ = some (.int .u64 A1) := hb4.reads (by go_simp)
  have u2_4 : w4.cell? ⟨w2.heap.size, 2, none⟩ = some (.int .u64 B1) := hb4.reads (by go_simp)
  have zu_4 : w2.heap.size < w4.heap.size := World.block_lt_of_cell? w4 _ u0_4
  have x0_4 : w4.cell? ⟨w3.heap.size, 0, none⟩ = some (.int .u8 K2) := hb4.reads (by go_simp)
  have x1_4 : w4.cell? ⟨w3.heap.size, 1, none⟩ = some (.int .u64 A2) := hb4.reads (by go_simp)
  have x2_4 : w4.cell? ⟨w3.heap.size, 2, none⟩ = some (.int .u64 B2) := hb4.reads (by go_simp)
  have zx_4 : w3.heap.size < w4.heap.size := World.block_lt_of_cell? w4 _ x0_4
  clear s0_3 s1_3 s2_3 zs_3 t0_3 t1_3 t2_3 zt_3 u0_3 u1_3 u2_3 zu_3
  go_wp2_with fail
  refine (kMigrate k A B kind now most hA hB hn hm _).mono ?_
  rw [HK3.out, HA3.out, HB3.out, HE3.out]
  rintro e w5 ⟨rfl, hb5⟩
  have s0_5 : w5.cell? ⟨w.heap.size, 0, none⟩ = some (.int .u8 k) := hb5.reads (by go_simp)
  have s1_5 : w5.cell? ⟨w.heap.size, 1, none⟩ = some (.int .u64 A) := hb5.reads (by go_simp)
  have s2_5 : w5.cell? ⟨w.heap.size, 2, none⟩ = some (.int .u64 B) := hb5.reads (by go_simp)
  have zs_5 : w.heap.size < w5.heap.size := World.block_lt_of_cell? w5 _ s0_5
  have t0_5 : w5.cell? ⟨w1.heap.size, 0, none⟩ = some (.int .u8 K1) := hb5.reads (by go_simp)
  have t1_5 : w5.cell? ⟨w1.heap.size, 1, none⟩ = some (.int .u64 A1) := hb5.reads (by go_simp)
  have t2_5 : w5.cell? ⟨w1.heap.size, 2, none⟩ = some (.int .u64 B1) := hb5.reads (by go_simp)
  have zt_5 : w1.heap.size < w5.heap.size := World.block_lt_of_cell? w5 _ t0_5
  have u0_5 : w5.cell? ⟨w2.heap.size, 0, none⟩ = some (.int .u8 K1) := hb5.reads (by go_simp)
  have u1_5 : w5.cell? ⟨w2.heap.size, 1, none⟩ = some (.int .u64 A1) := hb5.reads (by go_simp)
  have u2_5 : w5.cell? ⟨w2.heap.size, 2, none⟩ = some (.int .u64 B1) := hb5.reads (by go_simp)
  have zu_5 : w2.heap.size < w5.heap.size := World.block_lt_of_cell? w5 _ u0_5
  have x0_5 : w5.cell? ⟨w3.heap.size, 0, none⟩ = some (.int .u8 K2) := hb5.reads (by go_simp)
  have x1_5 : w5.cell? ⟨w3.heap.size, 1, none⟩ = some (.int .u64 A2) := hb5.reads (by go_simp)
  have x2_5 : w5.cell? ⟨w3.heap.size, 2, none⟩ = some (.int .u64 B2) := hb5.reads (by go_simp)
  have zx_5 : w3.heap.size < w5.heap.size := World.block_lt_of_cell? w5 _ x0_5
  have y0_5 : w5.cell? ⟨w4.heap.size, 0, none⟩ = some (.int .u8 K2) := hb5.reads (by go_simp)
  have y1_5 : w5.cell? ⟨w4.heap.size, 1, none⟩ = some (.int .u64 A2) := hb5.reads (by go_simp)
  have y2_5 : w5.cell? ⟨w4.heap.size, 2, none⟩ = some (.int .u64 B2) := hb5.reads (by go_simp)
  have zy_5 : w4.heap.size < w5.heap.size := World.block_lt_of_cell? w5 _ y0_5
  clear s0_4 s1_4 s2_4 zs_4 t0_4 t1_4 t2_4 zt_4 u0_4 u1_4 u2_4 zu_4 x0_4 x1_4 x2_4 zx_4
  go_wp2_with fail
  refine (q7Migrate k A B kind now most hA hB hn hm _).mono ?_
  rw [HK3.out, HA3.out, HB3.out, HE3.out]
  rintro e w6 ⟨rfl, hb6⟩
  have s0_6 : w6.cell? ⟨w.heap.size, 0, none⟩ = some (.int .u8 k) := hb6.reads (by go_simp)
  have s1_6 : w6.cell? ⟨w.heap.size, 1, none⟩ = some (.int .u64 A) := hb6.reads (by go_simp)
  have s2_6 : w6.cell? ⟨w.heap.size, 2, none⟩ = some (.int .u64 B) := hb6.reads (by go_simp)
  have zs_6 : w.heap.size < w6.heap.size := World.block_lt_of_cell? w6 _ s0_6
  have t0_6 : w6.cell? ⟨w1.heap.size, 0, none⟩ = some (.int .u8 K1) := hb6.reads (by go_simp)
  have t1_6 : w6.cell? ⟨w1.heap.size, 1, none⟩ = some (.int .u64 A1) := hb6.reads (by go_simp)
  have t2_6 : w6.cell? ⟨w1.heap.size, 2, none⟩ = some (.int .u64 B1) := hb6.reads (by go_simp)
  have zt_6 : w1.heap.size < w6.heap.size := World.block_lt_of_cell? w6 _ t0_6
  have u0_6 : w6.cell? ⟨w2.heap.size, 0, none⟩ = some (.int .u8 K1) := hb6.reads (by go_simp)
  have u1_6 : w6.cell? ⟨w2.heap.size, 1, none⟩ = some (.int .u64 A1) := hb6.reads (by go_simp)
  have u2_6 : w6.cell? ⟨w2.heap.size, 2, none⟩ = some (.int .u64 B1) := hb6.reads (by go_simp)
  have zu_6 : w2.heap.size < w6.heap.size := World.block_lt_of_cell? w6 _ u0_6
  have x0_6 : w6.cell? ⟨w3.heap.size, 0, none⟩ = some (.int .u8 K2) := hb6.reads (by go_simp)
  have x1_6 : w6.cell? ⟨w3.heap.size, 1, none⟩ = some (.int .u64 A2) := hb6.reads (by go_simp)
  have x2_6 : w6.cell? ⟨w3.heap.size, 2, none⟩ = some (.int .u64 B2) := hb6.reads (by go_simp)
  have zx_6 : w3.heap.size < w6.heap.size := World.block_lt_of_cell? w6 _ x0_6
  have y0_6 : w6.cell? ⟨w4.heap.size, 0, none⟩ = some (.int .u8 K2) := hb6.reads (by go_simp)
  have y1_6 : w6.cell? ⟨w4.heap.size, 1, none⟩ = some (.int .u64 A2) := hb6.reads (by go_simp)
  have y2_6 : w6.cell? ⟨w4.heap.size, 2, none⟩ = some (.int .u64 B2) := hb6.reads (by go_simp)
  have zy_6 : w4.heap.size < w6.heap.size := World.block_lt_of_cell? w6 _ y0_6
  have p0_6 : w6.cell? ⟨w5.heap.size, 0, none⟩ = some (.int .u8 K3) := hb6.reads (by go_simp)
  have p1_6 : w6.cell? ⟨w5.heap.size, 1, none⟩ = some (.int .u64 A3) := hb6.reads (by go_simp)
  have p2_6 : w6.cell? ⟨w5.heap.size, 2, none⟩ = some (.int .u64 B3) := hb6.reads (by go_simp)
  have zp_6 : w5.heap.size < w6.heap.size := World.block_lt_of_cell? w6 _ p0_6
  clear s0_5 s1_5 s2_5 zs_5 t0_5 t1_5 t2_5 zt_5 u0_5 u1_5 u2_5 zu_5 x0_5 x1_5 x2_5 zx_5 y0_5 y1_5 y2_5 zy_5
  go_wp2_with fail
  refine (kWait k A B now most v hA hB hn hm hv _).mono ?_
  rw [HD4.out, HO4.out]
  rintro e w7 ⟨rfl, hb7⟩
  have s0_7 : w7.cell? ⟨w.heap.size, 0, none⟩ = some (.int .u8 k) := hb7.reads (by go_simp)
  have s1_7 : w7.cell? ⟨w.heap.size, 1, none⟩ = some (.int .u64 A) := hb7.reads (by go_simp)
  have s2_7 : w7.cell? ⟨w.heap.size, 2, none⟩ = some (.int .u64 B) := hb7.reads (by go_simp)
  have zs_7 : w.heap.size < w7.heap.size := World.block_lt_of_cell? w7 _ s0_7
  have t0_7 : w7.cell? ⟨w1.heap.size, 0, none⟩ = some (.int .u8 K1) := hb7.reads (by go_simp)
  have t1_7 : w7.cell? ⟨w1.heap.size, 1, none⟩ = some (.int .u64 A1) := hb7.reads (by go_simp)
  have t2_7 : w7.cell? ⟨w1.heap.size, 2, none⟩ = some (.int .u64 B1) := hb7.reads (by go_simp)
  have zt_7 : w1.heap.size < w7.heap.size := World.block_lt_of_cell? w7 _ t0_7
  have u0_7 : w7.cell? ⟨w2.heap.size, 0, none⟩ = some (.int .u8 K1) := hb7.reads (by go_simp)
  have u1_7 : w7.cell? ⟨w2.heap.size, 1, none⟩ = some (.int .u64 A1) := hb7.reads (by go_simp)
  have u2_7 : w7.cell? ⟨w2.heap.size, 2, none⟩ = some (.int .u64 B1) := hb7.reads (by go_simp)
  have zu_7 : w2.heap.size < w7.heap.size := World.block_lt_of_cell? w7 _ u0_7
  have x0_7 : w7.cell? ⟨w3.heap.size, 0, none⟩ = some (.int .u8 K2) := hb7.reads (by go_simp)
  have x1_7 : w7.cell? ⟨w3.heap.size, 1, none⟩ = some (.int .u64 A2) := hb7.reads (by go_simp)
  have x2_7 : w7.cell? ⟨w3.heap.size, 2, none⟩ = some (.int .u64 B2) := hb7.reads (by go_simp)
  have zx_7 : w3.heap.size < w7.heap.size := World.block_lt_of_cell? w7 _ x0_7
  have y0_7 : w7.cell? ⟨w4.heap.size, 0, none⟩ = some (.int .u8 K2) := hb7.reads (by go_simp)
  have y1_7 : w7.cell? ⟨w4.heap.size, 1, none⟩ = some (.int .u64 A2) := hb7.reads (by go_simp)
  have y2_7 : w7.cell? ⟨w4.heap.size, 2, none⟩ = some (.int .u64 B2) := hb7.reads (by go_simp)
  have zy_7 : w4.heap.size < w7.heap.size := World.block_lt_of_cell? w7 _ y0_7
  have p0_7 : w7.cell? ⟨w5.heap.size, 0, none⟩ = some (.int .u8 K3) := hb7.reads (by go_simp)
  have p1_7 : w7.cell? ⟨w5.heap.size, 1, none⟩ = some (.int .u64 A3) := hb7.reads (by go_simp)
  have p2_7 : w7.cell? ⟨w5.heap.size, 2, none⟩ = some (.int .u64 B3) := hb7.reads (by go_simp)
  have zp_7 : w5.heap.size < w7.heap.size := World.block_lt_of_cell? w7 _ p0_7
  have q0_7 : w7.cell? ⟨w6.heap.size, 0, none⟩ = some (.int .u8 K3) := hb7.reads (by go_simp)
  have q1_7 : w7.cell? ⟨w6.heap.size, 1, none⟩ = some (.int .u64 A3) := hb7.reads (by go_simp)
  have q2_7 : w7.cell? ⟨w6.heap.size, 2, none⟩ = some (.int .u64 B3) := hb7.reads (by go_simp)
  have zq_7 : w6.heap.size < w7.heap.size := World.block_lt_of_cell? w7 _ q0_7
  clear s0_6 s1_6 s2_6 zs_6 t0_6 t1_6 t2_6 zt_6 u0_6 u1_6 u2_6 zu_6 x0_6 x1_6 x2_6 zx_6 y0_6 y1_6 y2_6 zy_6 p0_6 p1_6 p2_6 zp_6
  go_wp2_with fail
  refine (q7Wait k A B now most v hA hB hn hm hv _).mono ?_
  rw [HD4.out, HO4.out]
  rintro e w8 ⟨rfl, hb8⟩
  have s0_8 : w8.cell? ⟨w.heap.size, 0, none⟩ = some (.int .u8 k) := hb8.reads (by go_simp)
  have s1_8 : w8.cell? ⟨w.heap.size, 1, none⟩ = some (.int .u64 A) := hb8.reads (by go_simp)
  have s2_8 : w8.cell? ⟨w.heap.size, 2, none⟩ = some (.int .u64 B) := hb8.reads (by go_simp)
  have zs_8 : w.heap.size < w8.heap.size := World.block_lt_of_cell? w8 _ s0_8
  have t0_8 : w8.cell? ⟨w1.heap.size, 0, none⟩ = some (.int .u8 K1) := hb8.reads (by go_simp)
  have t1_8 : w8.cell? ⟨w1.heap.size, 1, none⟩ = some (.int .u64 A1) := hb8.reads (by go_simp)
  have t2_8 : w8.cell? ⟨w1.heap.size, 2, none⟩ = some (.int .u64 B1) := hb8.reads (by go_simp)
  have zt_8 : w1.heap.size < w8.heap.size := World.block_lt_of_cell? w8 _ t0_8
  have u0_8 : w8.cell? ⟨w2.heap.size, 0, none⟩ = some (.int .u8 K1) := hb8.reads (by go_simp)
  have u1_8 : w8.cell? ⟨w2.heap.size, 1, none⟩ = some (.int .u64 A1) := hb8.reads (by go_simp)
  have u2_8 : w8.cell? ⟨w2.heap.size, 2, none⟩ = some (.int .u64 B1) := hb8.reads (by go_simp)
  have zu_8 : w2.heap.size < w8.heap.size := World.block_lt_of_cell? w8 _ u0_8
  have x0_8 : w8.cell? ⟨w3.heap.size, 0, none⟩ = some (.int .u8 K2) := hb8.reads (by go_simp)
  have x1_8 : w8.cell? ⟨w3.heap.size, 1, none⟩ = some (.int .u64 A2) := hb8.reads (by go_simp)
  have x2_8 : w8.cell? ⟨w3.heap.size, 2, none⟩ = some (.int .u64 B2) := hb8.reads (by go_simp)
  have zx_8 : w3.heap.size < w8.heap.size := World.block_lt_of_cell? w8 _ x0_8
  have y0_8 : w8.cell? ⟨w4.heap.size, 0, none⟩ = some (.int .u8 K2) := hb8.reads (by go_simp)
  have y1_8 : w8.cell? ⟨w4.heap.size, 1, none⟩ = some (.int .u64 A2) := hb8.reads (by go_simp)
  have y2_8 : w8.cell? ⟨w4.heap.size, 2, none⟩ = some (.int .u64 B2) := hb8.reads (by go_simp)
  have zy_8 : w4.heap.size < w8.heap.size := World.block_lt_of_cell? w8 _ y0_8
  have p0_8 : w8.cell? ⟨w5.heap.size, 0, none⟩ = some (.int .u8 K3) := hb8.reads (by go_simp)
  have p1_8 : w8.cell? ⟨w5.heap.size, 1, none⟩ = some (.int .u64 A3) := hb8.reads (by go_simp)
  have p2_8 : w8.cell? ⟨w5.heap.size, 2, none⟩ = some (.int .u64 B3) := hb8.reads (by go_simp)
  have zp_8 : w5.heap.size < w8.heap.size := World.block_lt_of_cell? w8 _ p0_8
  have q0_8 : w8.cell? ⟨w6.heap.size, 0, none⟩ = some (.int .u8 K3) := hb8.reads (by go_simp)
  have q1_8 : w8.cell? ⟨w6.heap.size, 1, none⟩ = some (.int .u64 A3) := hb8.reads (by go_simp)
  have q2_8 : w8.cell? ⟨w6.heap.size, 2, none⟩ = some (.int .u64 B3) := hb8.reads (by go_simp)
  have zq_8 : w6.heap.size < w8.heap.size := World.block_lt_of_cell? w8 _ q0_8
  clear s0_7 s1_7 s2_7 zs_7 t0_7 t1_7 t2_7 zt_7 u0_7 u1_7 u2_7 zu_7 x0_7 x1_7 x2_7 zx_7 y0_7 y1_7 y2_7 zy_7 p0_7 p1_7 p2_7 zp_7 q0_7 q1_7 q2_7 zq_7
  have hw2 : IntKind.i64.wrap E2 = E2 := IntWalk.i64_in _ (by omega)
  have hw3 : IntKind.i64.wrap E3 = E3 := IntWalk.i64_in _ (by omega)
  have hq2 : wrap64 E2 = E2 := IntWalk.wrap64_in _ (by omega)
  have hq3 : wrap64 E3 = E3 := IntWalk.wrap64_in _ (by omega)
  have hx : Ext w w8 := by repeat (first | exact Ext.refl _ | assumption | apply Ext.drew | apply Ext.alloc | (refine Ext.setCell ?_ (by simp <;> omega) _) | refine Ext.trans ?_ (by assumption))
  clear hb1 hb2 hb3 hb4 hb5 hb6 hb7 hb8 zs_8 zt_8 zu_8 zx_8 zy_8 zp_8 zq_8 HK1 HA1 HB1 HO1 HK2 HA2 HB2 HE2 HK3 HA3 HB3 HE3 HD4 HO4
  go_wp2
  go_region_held3 (fun w' => w'.cell? ⟨w.heap.size, 0, none⟩ = some (.int .u8 k) ∧ w'.cell? ⟨w.heap.size, 1, none⟩ = some (.int .u64 A) ∧ w'.cell? ⟨w.heap.size, 2, none⟩ = some (.int .u64 B) ∧ w'.cell? ⟨w1.heap.size, 0, none⟩ = some (.int .u8 K1) ∧ w'.cell? ⟨w1.heap.size, 1, none⟩ = some (.int .u64 A1) ∧ w'.cell? ⟨w1.heap.size, 2, none⟩ = some (.int .u64 B1) ∧ w'.cell? ⟨w2.heap.size, 0, none⟩ = some (.int .u8 K1) ∧ w'.cell? ⟨w2.heap.size, 1, none⟩ = some (.int .u64 A1) ∧ w'.cell? ⟨w2.heap.size, 2, none⟩ = some (.int .u64 B1) ∧ w'.cell? ⟨w3.heap.size, 0, none⟩ = some (.int .u8 K2) ∧ w'.cell? ⟨w3.heap.size, 1, none⟩ = some (.int .u64 A2) ∧ w'.cell? ⟨w3.heap.size, 2, none⟩ = some (.int .u64 B2) ∧ w'.cell? ⟨w4.heap.size, 0, none⟩ = some (.int .u8 K2) ∧ w'.cell? ⟨w4.heap.size, 1, none⟩ = some (.int .u64 A2) ∧ w'.cell? ⟨w4.heap.size, 2, none⟩ = some (.int .u64 B2) ∧ w'.cell? ⟨w5.heap.size, 0, none⟩ = some (.int .u8 K3) ∧ w'.cell? ⟨w5.heap.size, 1, none⟩ = some (.int .u64 A3) ∧ w'.cell? ⟨w5.heap.size, 2, none⟩ = some (.int .u64 B3) ∧ w'.cell? ⟨w6.heap.size, 0, none⟩ = some (.int .u8 K3) ∧ w'.cell? ⟨w6.heap.size, 1, none⟩ = some (.int .u64 A3) ∧ w'.cell? ⟨w6.heap.size, 2, none⟩ = some (.int .u64 B3))
    (first
      | (go_split_ands
         refine ⟨hb.reads ?_, hb.reads ?_, hb.reads ?_, hb.reads ?_, hb.reads ?_, hb.reads ?_, hb.reads ?_, hb.reads ?_, hb.reads ?_, hb.reads ?_, hb.reads ?_, hb.reads ?_, hb.reads ?_, hb.reads ?_, hb.reads ?_, hb.reads ?_, hb.reads ?_, hb.reads ?_, hb.reads ?_, hb.reads ?_, hb.reads ?_⟩ <;> assumption)
      | (refine ⟨?_, ?_, ?_, ?_, ?_, ?_, ?_, ?_, ?_, ?_, ?_, ?_, ?_, ?_, ?_, ?_, ?_, ?_, ?_, ?_, ?_⟩ <;> assumption)
      | go_keep)
    (first
      | (go_at_call 32; refine (kFill k A B now most hA hB hn hm _).mono ?_; rintro e w9 ⟨rfl, hb⟩)
      | (go_at_call 63; refine (q7Fill k A B now most hA hB hn hm _).mono ?_; rintro e w9 ⟨rfl, hb⟩)
      | (go_at_call 33; refine (kUntil k A B now most hA hB hn hm _).mono ?_; rintro e w9 ⟨rfl, hb⟩)
      | (go_at_call 64; refine (q7Until k A B now most hA hB hn hm _).mono ?_; rintro e w9 ⟨rfl, hb⟩)
      | (go_at_call 35; refine (kLeft k A B now most every hA hB hn hm hv2 _).mono ?_; rintro e w9 ⟨rfl, hb⟩)
      | (go_at_call 65; refine (q7Left k A B now most every hA hB hn hm hv2 _).mono ?_; rintro e w9 ⟨rfl, hb⟩))
  go_wp2
  go_ret
  exact ⟨rfl, by repeat (first | exact Ext.refl _ | assumption | apply Ext.drew | apply Ext.alloc | (refine Ext.setCell ?_ (by simp <;> omega) _) | refine Ext.trans ?_ (by assumption))⟩

end Go.Proofs.Ytfabgfenelaheaa
