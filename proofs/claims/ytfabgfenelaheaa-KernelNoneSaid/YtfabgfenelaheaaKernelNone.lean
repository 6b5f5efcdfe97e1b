/- The walk of the law KernelNone. -/
import Derived.Test.YtfabgfenelaheaaKernelQ
set_option linter.unusedVariables false
namespace Go.Proofs.Ytfabgfenelaheaa
open Go.RowKit

attribute [local go_sem] ite_min ite_max

theorem noneE {k : Int} (h : k = 1 ∨ k = 2 ∨ k = 3) : isK k = true ∧ oE k = 0 ∧ oK k = k ∧ mE k 1 = 0 ∧ 1 ≤ k ∧ k ≤ 3 := by
  rcases h with rfl | rfl | rfl <;> exact ⟨rfl, rfl, rfl, rfl, by omega, by omega⟩

theorem none0 {k : Int} (h1 : k ≠ 1) (h2 : k ≠ 2) (h3 : k ≠ 3) (A B now cap : Int) : mE k 1 = 27 ∧ until' k A B now cap = 0 := by
  unfold mE until'; rw [isK_0 h1 h2 h3, fil_0 A B now cap h1 h2 h3]; exact ⟨rfl, rfl⟩

theorem kNone1 (k0 A B kind now most v : Int) (hk : kind = 1 ∨ kind = 2 ∨ kind = 3) (hA : U A) (hB : U B) (hn : U now) (hm : U most) (hv : U v) (w : World) :
    Calls Try.prog 14 #[.agg #[.int .u8 k0, .int .u64 A, .int .u64 B], .int .u8 kind, .int .u64 now, .int .u64 most, .int .u64 v] w fun e w' => e = .returned (.bool true) ∧ Ext w w' := by
  obtain ⟨h1, h2, h3, h4, h5, h6⟩ := noneE hk
  have H := Lib.hid (And.intro h1 (And.intro h2 (And.intro h3 h4)))
  clear h1 h2 h3 h4 hk
  go_enter Try.func14, Try.ntmps14
  go_wp2_with fail
  refine (kDecide kind A B now most v hA hB hn hm hv _).mono ?_
  rintro e w1 ⟨rfl, hb1⟩
  have s0_1 : w1.cell? ⟨w.heap.size, 0, none⟩ = some (.int .u8 kind) := hb1.reads (by go_simp)
  have s1_1 : w1.cell? ⟨w.heap.size, 1, none⟩ = some (.int .u64 A) := hb1.reads (by go_simp)
  have s2_1 : w1.cell? ⟨w.heap.size, 2, none⟩ = some (.int .u64 B) := hb1.reads (by go_simp)
  have zs_1 : w.heap.size < w1.heap.size := World.block_lt_of_cell? w1 _ s0_1
  go_wp2_with fail
  refine (kOf kind now most v hn hm hv _).mono ?_
  rw [H.out.2.1, H.out.2.2.1]
  rintro e w2 ⟨rfl, hb2⟩
  have s0_2 : w2.cell? ⟨w.heap.size, 0, none⟩ = some (.int .u8 kind) := hb2.reads (by go_simp)
  have s1_2 : w2.cell? ⟨w.heap.size, 1, none⟩ = some (.int .u64 A) := hb2.reads (by go_simp)
  have s2_2 : w2.cell? ⟨w.heap.size, 2, none⟩ = some (.int .u64 B) := hb2.reads (by go_simp)
  have zs_2 : w.heap.size < w2.heap.size := World.block_lt_of_cell? w2 _ s0_2
  clear s0_1 s1_1 s2_1 zs_1
  go_wp2_with fail
  refine (kMigrate kind A B 1 now most hA hB hn hm _).mono ?_
  rw [H.out.2.2.2]
  rintro e w3 ⟨rfl, hb3⟩
  have s0_3 : w3.cell? ⟨w.heap.size, 0, none⟩ = some (.int .u8 kind) := hb3.reads (by go_simp)
  have s1_3 : w3.cell? ⟨w.heap.size, 1, none⟩ = some (.int .u64 A) := hb3.reads (by go_simp)
  have s2_3 : w3.cell? ⟨w.heap.size, 2, none⟩ = some (.int .u64 B) := hb3.reads (by go_simp)
  have zs_3 : w.heap.size < w3.heap.size := World.block_lt_of_cell? w3 _ s0_3
  have x0_3 : w3.cell? ⟨w2.heap.size, 0, none⟩ = some (.int .u8 kind) := hb3.reads (by go_simp)
  have x1_3 : w3.cell? ⟨w2.heap.size, 1, none⟩ = some (.int .u64 (oA kind now most v)) := hb3.reads (by go_simp)
  have x2_3 : w3.cell? ⟨w2.heap.size, 2, none⟩ = some (.int .u64 (oB kind now)) := hb3.reads (by go_simp)
  have zx_3 : w2.heap.size < w3.heap.size := World.block_lt_of_cell? w3 _ x0_3
  clear s0_2 s1_2 s2_2 zs_2
  go_wp2_with fail
  refine (kKnown _).mono ?_
  rintro e w4 ⟨rfl, hb4⟩
  have s0_4 : w4.cell? ⟨w.heap.size, 0, none⟩ = some (.int .u8 kind) := hb4.reads (by go_simp)
  have s1_4 : w4.cell? ⟨w.heap.size, 1, none⟩ = some (.int .u64 A) := hb4.reads (by go_simp)
  have s2_4 : w4.cell? ⟨w.heap.size, 2, none⟩ = some (.int .u64 B) := hb4.reads (by go_simp)
  have zs_4 : w.heap.size < w4.heap.size := World.block_lt_of_cell? w4 _ s0_4
  have x0_4 : w4.cell? ⟨w2.heap.size, 0, none⟩ = some (.int .u8 kind) := hb4.reads (by go_simp)
  have x1_4 : w4.cell? ⟨w2.heap.size, 1, none⟩ = some (.int .u64 (oA kind now most v)) := hb4.reads (by go_simp)
  have x2_4 : w4.cell? ⟨w2.heap.size, 2, none⟩ = some (.int .u64 (oB kind now)) := hb4.reads (by go_simp)
  have zx_4 : w2.heap.size < w4.heap.size := World.block_lt_of_cell? w4 _ x0_4
  clear s0_3 s1_3 s2_3 zs_3 x0_3 x1_3 x2_3 zx_3
  go_wp2_with fail
  refine (kRight kind _).mono ?_
  rw [H.out.1]
  rintro e w5 ⟨rfl, hb5⟩
  have s0_5 : w5.cell? ⟨w.heap.size, 0, none⟩ = some (.int .u8 kind) := hb5.reads (by go_simp)
  have s1_5 : w5.cell? ⟨w.heap.size, 1, none⟩ = some (.int .u64 A) := hb5.reads (by go_simp)
  have s2_5 : w5.cell? ⟨w.heap.size, 2, none⟩ = some (.int .u64 B) := hb5.reads (by go_simp)
  have zs_5 : w.heap.size < w5.heap.size := World.block_lt_of_cell? w5 _ s0_5
  have x0_5 : w5.cell? ⟨w2.heap.size, 0, none⟩ = some (.int .u8 kind) := hb5.reads (by go_simp)
  have x1_5 : w5.cell? ⟨w2.heap.size, 1, none⟩ = some (.int .u64 (oA kind now most v)) := hb5.reads (by go_simp)
  have x2_5 : w5.cell? ⟨w2.heap.size, 2, none⟩ = some (.int .u64 (oB kind now)) := hb5.reads (by go_simp)
  have zx_5 : w2.heap.size < w5.heap.size := World.block_lt_of_cell? w5 _ x0_5
  clear s0_4 s1_4 s2_4 zs_4 x0_4 x1_4 x2_4 zx_4
  go_wp2
  go_ret
  exact ⟨rfl, by repeat (first | exact Ext.refl _ | assumption | apply Ext.drew | apply Ext.alloc | (refine Ext.setCell ?_ (by simp <;> omega) _) | refine Ext.trans ?_ (by assumption))⟩

theorem kNone0 (k0 A B kind now most v : Int) (h1 : kind ≠ 1) (h2 : kind ≠ 2) (h3 : kind ≠ 3) (hin : kind = 0 ∨ 4 ≤ kind) (hA : U A) (hB : U B) (hn : U now) (hm : U most) (hv : U v) (w : World) :
    Calls Try.prog 14 #[.agg #[.int .u8 k0, .int .u64 A, .int .u64 B], .int .u8 kind, .int .u64 now, .int .u64 most, .int .u64 v] w fun e w' => e = .returned (.bool true) ∧ Ext w w' := by
  have H := Lib.hid (none0 h1 h2 h3 A B now most)
  have H1 := Lib.hid h1
  have H2 := Lib.hid h2
  have H3 := Lib.hid h3
  clear h1 h2 h3
  rcases hin with rfl | hin
  · go_enter Try.func14, Try.ntmps14
    go_wp2_with fail
    refine (kDecide 0 A B now most v hA hB hn hm hv _).mono ?_
    rw [dK_0 _ _ _ _ _ H1.out H2.out H3.out, dA_0 _ _ _ _ _ H1.out H2.out H3.out, dB_0 _ _ _ _ _ H1.out H2.out H3.out, dok_0 _ _ _ _ _ H1.out H2.out H3.out]
    rintro e w1 ⟨rfl, hb1⟩
    have s0_1 : w1.cell? ⟨w.heap.size, 0, none⟩ = some (.int .u8 0) := hb1.reads (by go_simp)
    have s1_1 : w1.cell? ⟨w.heap.size, 1, none⟩ = some (.int .u64 A) := hb1.reads (by go_simp)
    have s2_1 : w1.cell? ⟨w.heap.size, 2, none⟩ = some (.int .u64 B) := hb1.reads (by go_simp)
    have zs_1 : w.heap.size < w1.heap.size := World.block_lt_of_cell? w1 _ s0_1
    go_wp2_with fail
    refine (kOf 0 now most v hn hm hv _).mono ?_
    rw [oK_0 H1.out H2.out H3.out, oA_0 _ _ _ H1.out H2.out H3.out, oB_0 _ H1.out H2.out H3.out, oE_0 H1.out H2.out H3.out]
    rintro e w2 ⟨rfl, hb2⟩
    have s0_2 : w2.cell? ⟨w.heap.size, 0, none⟩ = some (.int .u8 0) := hb2.reads (by go_simp)
    have s1_2 : w2.cell? ⟨w.heap.size, 1, none⟩ = some (.int .u64 A) := hb2.reads (by go_simp)
    have s2_2 : w2.cell? ⟨w.heap.size, 2, none⟩ = some (.int .u64 B) := hb2.reads (by go_simp)
    have zs_2 : w.heap.size < w2.heap.size := World.block_lt_of_cell? w2 _ s0_2
    have t0_2 : w2.cell? ⟨w1.heap.size, 0, none⟩ = some (.int .u8 0) := hb2.reads (by go_simp)
    have t1_2 : w2.cell? ⟨w1.heap.size, 1, none⟩ = some (.int .u64 A) := hb2.reads (by go_simp)
    have t2_2 : w2.cell? ⟨w1.heap.size, 2, none⟩ = some (.int .u64 B) := hb2.reads (by go_simp)
    have zt_2 : w1.heap.size < w2.heap.size := World.block_lt_of_cell? w2 _ t0_2
    clear s0_1 s1_1 s2_1 zs_1
    go_wp2_with fail
    refine (kMigrate 0 A B 1 now most hA hB hn hm _).mono ?_
    rw [H.out.1]
    rintro e w3 ⟨rfl, hb3⟩
    have s0_3 : w3.cell? ⟨w.heap.size, 0, none⟩ = some (.int .u8 0) := hb3.reads (by go_simp)
    have s1_3 : w3.cell? ⟨w.heap.size, 1, none⟩ = some (.int .u64 A) := hb3.reads (by go_simp)
    have s2_3 : w3.cell? ⟨w.heap.size, 2, none⟩ = some (.int .u64 B) := hb3.reads (by go_simp)
    have zs_3 : w.heap.size < w3.heap.size := World.block_lt_of_cell? w3 _ s0_3
    have t0_3 : w3.cell? ⟨w1.heap.size, 0, none⟩ = some (.int .u8 0) := hb3.reads (by go_simp)
    have t1_3 : w3.cell? ⟨w1.heap.size, 1, none⟩ = some (.int .u64 A) := hb3.reads (by go_simp)
    have t2_3 : w3.cell? ⟨w1.heap.size, 2, none⟩ = some (.int .u64 B) := hb3.reads (by go_simp)
    have zt_3 : w1.heap.size < w3.heap.size := World.block_lt_of_cell? w3 _ t0_3
    have x0_3 : w3.cell? ⟨w2.heap.size, 0, none⟩ = some (.int .u8 0) := hb3.reads (by go_simp)
    have x1_3 : w3.cell? ⟨w2.heap.size, 1, none⟩ = some (.int .u64 0) := hb3.reads (by go_simp)
    have x2_3 : w3.cell? ⟨w2.heap.size, 2, none⟩ = some (.int .u64 0) := hb3.reads (by go_simp)
    have zx_3 : w2.heap.size < w3.heap.size := World.block_lt_of_cell? w3 _ x0_3
    clear s0_2 s1_2 s2_2 zs_2 t0_2 t1_2 t2_2 zt_2
    go_wp2_with fail
    refine (kKnown _).mono ?_
    rintro e w4 ⟨rfl, hb4⟩
    have s0_4 : w4.cell? ⟨w.heap.size, 0, none⟩ = some (.int .u8 0) := hb4.reads (by go_simp)
    have s1_4 : w4.cell? ⟨w.heap.size, 1, none⟩ = some (.int .u64 A) := hb4.reads (by go_simp)
    have s2_4 : w4.cell? ⟨w.heap.size, 2, none⟩ = some (.int .u64 B) := hb4.reads (by go_simp)
    have zs_4 : w.heap.size < w4.heap.size := World.block_lt_of_cell? w4 _ s0_4
    have t0_4 : w4.cell? ⟨w1.heap.size, 0, none⟩ = some (.int .u8 0) := hb4.reads (by go_simp)
    have t1_4 : w4.cell? ⟨w1.heap.size, 1, none⟩ = some (.int .u64 A) := hb4.reads (by go_simp)
    have t2_4 : w4.cell? ⟨w1.heap.size, 2, none⟩ = some (.int .u64 B) := hb4.reads (by go_simp)
    have zt_4 : w1.heap.size < w4.heap.size := World.block_lt_of_cell? w4 _ t0_4
    have x0_4 : w4.cell? ⟨w2.heap.size, 0, none⟩ = some (.int .u8 0) := hb4.reads (by go_simp)
    have x1_4 : w4.cell? ⟨w2.heap.size, 1, none⟩ = some (.int .u64 0) := hb4.reads (by go_simp)
    have x2_4 : w4.cell? ⟨w2.heap.size, 2, none⟩ = some (.int .u64 0) := hb4.reads (by go_simp)
    have zx_4 : w2.heap.size < w4.heap.size := World.block_lt_of_cell? w4 _ x0_4
    clear s0_3 s1_3 s2_3 zs_3 t0_3 t1_3 t2_3 zt_3 x0_3 x1_3 x2_3 zx_3
    go_wp2_with fail
    refine (kRight 0 _).mono ?_
    rw [isK_0 H1.out H2.out H3.out]
    rintro e w5 ⟨rfl, hb5⟩
    have s0_5 : w5.cell? ⟨w.heap.size, 0, none⟩ = some (.int .u8 0) := hb5.reads (by go_simp)
    have s1_5 : w5.cell? ⟨w.heap.size, 1, none⟩ = some (.int .u64 A) := hb5.reads (by go_simp)
    have s2_5 : w5.cell? ⟨w.heap.size, 2, none⟩ = some (.int .u64 B) := hb5.reads (by go_simp)
    have zs_5 : w.heap.size < w5.heap.size := World.block_lt_of_cell? w5 _ s0_5
    have t0_5 : w5.cell? ⟨w1.heap.size, 0, none⟩ = some (.int .u8 0) := hb5.reads (by go_simp)
    have t1_5 : w5.cell? ⟨w1.heap.size, 1, none⟩ = some (.int .u64 A) := hb5.reads (by go_simp)
    have t2_5 : w5.cell? ⟨w1.heap.size, 2, none⟩ = some (.int .u64 B) := hb5.reads (by go_simp)
    have zt_5 : w1.heap.size < w5.heap.size := World.block_lt_of_cell? w5 _ t0_5
    have x0_5 : w5.cell? ⟨w2.heap.size, 0, none⟩ = some (.int .u8 0) := hb5.reads (by go_simp)
    have x1_5 : w5.cell? ⟨w2.heap.size, 1, none⟩ = some (.int .u64 0) := hb5.reads (by go_simp)
    have x2_5 : w5.cell? ⟨w2.heap.size, 2, none⟩ = some (.int .u64 0) := hb5.reads (by go_simp)
    have zx_5 : w2.heap.size < w5.heap.size := World.block_lt_of_cell? w5 _ x0_5
    clear s0_4 s1_4 s2_4 zs_4 t0_4 t1_4 t2_4 zt_4 x0_4 x1_4 x2_4 zx_4
    go_wp2_with fail
    refine (kFill 0 A B now most hA hB hn hm _).mono ?_
    rw [fil_0 _ _ _ _ H1.out H2.out H3.out]
    rintro e w6 ⟨rfl, hb6⟩
    have s0_6 : w6.cell? ⟨w.heap.size, 0, none⟩ = some (.int .u8 0) := hb6.reads (by go_simp)
    have s1_6 : w6.cell? ⟨w.heap.size, 1, none⟩ = some (.int .u64 A) := hb6.reads (by go_simp)
    have s2_6 : w6.cell? ⟨w.heap.size, 2, none⟩ = some (.int .u64 B) := hb6.reads (by go_simp)
    have zs_6 : w.heap.size < w6.heap.size := World.block_lt_of_cell? w6 _ s0_6
    have t0_6 : w6.cell? ⟨w1.heap.size, 0, none⟩ = some (.int .u8 0) := hb6.reads (by go_simp)
    have t1_6 : w6.cell? ⟨w1.heap.size, 1, none⟩ = some (.int .u64 A) := hb6.reads (by go_simp)
    have t2_6 : w6.cell? ⟨w1.heap.size, 2, none⟩ = some (.int .u64 B) := hb6.reads (by go_simp)
    have zt_6 : w1.heap.size < w6.heap.size := World.block_lt_of_cell? w6 _ t0_6
    have x0_6 : w6.cell? ⟨w2.heap.size, 0, none⟩ = some (.int .u8 0) := hb6.reads (by go_simp)
    have x1_6 : w6.cell? ⟨w2.heap.size, 1, none⟩ = some (.int .u64 0) := hb6.reads (by go_simp)
    have x2_6 : w6.cell? ⟨w2.heap.size, 2, none⟩ = some (.int .u64 0) := hb6.reads (by go_simp)
    have zx_6 : w2.heap.size < w6.heap.size := World.block_lt_of_cell? w6 _ x0_6
    clear s0_5 s1_5 s2_5 zs_5 t0_5 t1_5 t2_5 zt_5 x0_5 x1_5 x2_5 zx_5
    go_wp2_with fail
    refine (kUntil 0 A B now most hA hB hn hm _).mono ?_
    rw [H.out.2]
    rintro e w7 ⟨rfl, hb7⟩
    have s0_7 : w7.cell? ⟨w.heap.size, 0, none⟩ = some (.int .u8 0) := hb7.reads (by go_simp)
    have s1_7 : w7.cell? ⟨w.heap.size, 1, none⟩ = some (.int .u64 A) := hb7.reads (by go_simp)
    have s2_7 : w7.cell? ⟨w.heap.size, 2, none⟩ = some (.int .u64 B) := hb7.reads (by go_simp)
    have zs_7 : w.heap.size < w7.heap.size := World.block_lt_of_cell? w7 _ s0_7
    have t0_7 : w7.cell? ⟨w1.heap.size, 0, none⟩ = some (.int .u8 0) := hb7.reads (by go_simp)
    have t1_7 : w7.cell? ⟨w1.heap.size, 1, none⟩ = some (.int .u64 A) := hb7.reads (by go_simp)
    have t2_7 : w7.cell? ⟨w1.heap.size, 2, none⟩ = some (.int .u64 B) := hb7.reads (by go_simp)
    have zt_7 : w1.heap.size < w7.heap.size := World.block_lt_of_cell? w7 _ t0_7
    have x0_7 : w7.cell? ⟨w2.heap.size, 0, none⟩ = some (.int .u8 0) := hb7.reads (by go_simp)
    have x1_7 : w7.cell? ⟨w2.heap.size, 1, none⟩ = some (.int .u64 0) := hb7.reads (by go_simp)
    have x2_7 : w7.cell? ⟨w2.heap.size, 2, none⟩ = some (.int .u64 0) := hb7.reads (by go_simp)
    have zx_7 : w2.heap.size < w7.heap.size := World.block_lt_of_cell? w7 _ x0_7
    clear s0_6 s1_6 s2_6 zs_6 t0_6 t1_6 t2_6 zt_6 x0_6 x1_6 x2_6 zx_6
    go_wp2
    go_ret
    exact ⟨rfl, by repeat (first | exact Ext.refl _ | assumption | apply Ext.drew | apply Ext.alloc | (refine Ext.setCell ?_ (by simp <;> omega) _) | refine Ext.trans ?_ (by assumption))⟩
  · go_enter Try.func14, Try.ntmps14
    go_wp2_with fail
    refine (kDecide kind A B now most v hA hB hn hm hv _).mono ?_
    rw [dK_0 _ _ _ _ _ H1.out H2.out H3.out, dA_0 _ _ _ _ _ H1.out H2.out H3.out, dB_0 _ _ _ _ _ H1.out H2.out H3.out, dok_0 _ _ _ _ _ H1.out H2.out H3.out]
    rintro e w1 ⟨rfl, hb1⟩
    have s0_1 : w1.cell? ⟨w.heap.size, 0, none⟩ = some (.int .u8 kind) := hb1.reads (by go_simp)
    have s1_1 : w1.cell? ⟨w.heap.size, 1, none⟩ = some (.int .u64 A) := hb1.reads (by go_simp)
    have s2_1 : w1.cell? ⟨w.heap.size, 2, none⟩ = some (.int .u64 B) := hb1.reads (by go_simp)
    have zs_1 : w.heap.size < w1.heap.size := World.block_lt_of_cell? w1 _ s0_1
    go_wp2_with fail
    refine (kOf kind now most v hn hm hv _).mono ?_
    rw [oK_0 H1.out H2.out H3.out, oA_0 _ _ _ H1.out H2.out H3.out, oB_0 _ H1.out H2.out H3.out, oE_0 H1.out H2.out H3.out]
    rintro e w2 ⟨rfl, hb2⟩
    have s0_2 : w2.cell? ⟨w.heap.size, 0, none⟩ = some (.int .u8 kind) := hb2.reads (by go_simp)
    have s1_2 : w2.cell? ⟨w.heap.size, 1, none⟩ = some (.int .u64 A) := hb2.reads (by go_simp)
    have s2_2 : w2.cell? ⟨w.heap.size, 2, none⟩ = some (.int .u64 B) := hb2.reads (by go_simp)
    have zs_2 : w.heap.size < w2.heap.size := World.block_lt_of_cell? w2 _ s0_2
    have t0_2 : w2.cell? ⟨w1.heap.size, 0, none⟩ = some (.int .u8 kind) := hb2.reads (by go_simp)
    have t1_2 : w2.cell? ⟨w1.heap.size, 1, none⟩ = some (.int .u64 A) := hb2.reads (by go_simp)
    have t2_2 : w2.cell? ⟨w1.heap.size, 2, none⟩ = some (.int .u64 B) := hb2.reads (by go_simp)
    have zt_2 : w1.heap.size < w2.heap.size := World.block_lt_of_cell? w2 _ t0_2
    clear s0_1 s1_1 s2_1 zs_1
    go_wp2_with fail
    refine (kMigrate kind A B 1 now most hA hB hn hm _).mono ?_
    rw [H.out.1]
    rintro e w3 ⟨rfl, hb3⟩
    have s0_3 : w3.cell? ⟨w.heap.size, 0, none⟩ = some (.int .u8 kind) := hb3.reads (by go_simp)
    have s1_3 : w3.cell? ⟨w.heap.size, 1, none⟩ = some (.int .u64 A) := hb3.reads (by go_simp)
    have s2_3 : w3.cell? ⟨w.heap.size, 2, none⟩ = some (.int .u64 B) := hb3.reads (by go_simp)
    have zs_3 : w.heap.size < w3.heap.size := World.block_lt_of_cell? w3 _ s0_3
    have t0_3 : w3.cell? ⟨w1.heap.size, 0, none⟩ = some (.int .u8 kind) := hb3.reads (by go_simp)
    have t1_3 : w3.cell? ⟨w1.heap.size, 1, none⟩ = some (.int .u64 A) := hb3.reads (by go_simp)
    have t2_3 : w3.cell? ⟨w1.heap.size, 2, none⟩ = some (.int .u64 B) := hb3.reads (by go_simp)
    have zt_3 : w1.heap.size < w3.heap.size := World.block_lt_of_cell? w3 _ t0_3
    have x0_3 : w3.cell? ⟨w2.heap.size, 0, none⟩ = some (.int .u8 0) := hb3.reads (by go_simp)
    have x1_3 : w3.cell? ⟨w2.heap.size, 1, none⟩ = some (.int .u64 0) := hb3.reads (by go_simp)
    have x2_3 : w3.cell? ⟨w2.heap.size, 2, none⟩ = some (.int .u64 0) := hb3.reads (by go_simp)
    have zx_3 : w2.heap.size < w3.heap.size := World.block_lt_of_cell? w3 _ x0_3
    clear s0_2 s1_2 s2_2 zs_2 t0_2 t1_2 t2_2 zt_2
    go_wp2_with fail
    refine (kKnown _).mono ?_
    rintro e w4 ⟨rfl, hb4⟩
    have s0_4 : w4.cell? ⟨w.heap.size, 0, none⟩ = some (.int .u8 kind) := hb4.reads (by go_simp)
    have s1_4 : w4.cell? ⟨w.heap.size, 1, none⟩ = some (.int .u64 A) := hb4.reads (by go_simp)
    have s2_4 : w4.cell? ⟨w.heap.size, 2, none⟩ = some (.int .u64 B) := hb4.reads (by go_simp)
    have zs_4 : w.heap.size < w4.heap.size := World.block_lt_of_cell? w4 _ s0_4
    have t0_4 : w4.cell? ⟨w1.heap.size, 0, none⟩ = some (.int .u8 kind) := hb4.reads (by go_simp)
    have t1_4 : w4.cell? ⟨w1.heap.size, 1, none⟩ = some (.int .u64 A) := hb4.reads (by go_simp)
    have t2_4 : w4.cell? ⟨w1.heap.size, 2, none⟩ = some (.int .u64 B) := hb4.reads (by go_simp)
    have zt_4 : w1.heap.size < w4.heap.size := World.block_lt_of_cell? w4 _ t0_4
    have x0_4 : w4.cell? ⟨w2.heap.size, 0, none⟩ = some (.int .u8 0) := hb4.reads (by go_simp)
    have x1_4 : w4.cell? ⟨w2.heap.size, 1, none⟩ = some (.int .u64 0) := hb4.reads (by go_simp)
    have x2_4 : w4.cell? ⟨w2.heap.size, 2, none⟩ = some (.int .u64 0) := hb4.reads (by go_simp)
    have zx_4 : w2.heap.size < w4.heap.size := World.block_lt_of_cell? w4 _ x0_4
    clear s0_3 s1_3 s2_3 zs_3 t0_3 t1_3 t2_3 zt_3 x0_3 x1_3 x2_3 zx_3
    go_wp2_with fail
    refine (kRight kind _).mono ?_
    rw [isK_0 H1.out H2.out H3.out]
    rintro e w5 ⟨rfl, hb5⟩
    have s0_5 : w5.cell? ⟨w.heap.size, 0, none⟩ = some (.int .u8 kind) := hb5.reads (by go_simp)
    have s1_5 : w5.cell? ⟨w.heap.size, 1, none⟩ = some (.int .u64 A) := hb5.reads (by go_simp)
    have s2_5 : w5.cell? ⟨w.heap.size, 2, none⟩ = some (.int .u64 B) := hb5.reads (by go_simp)
    have zs_5 : w.heap.size < w5.heap.size := World.block_lt_of_cell? w5 _ s0_5
    have t0_5 : w5.cell? ⟨w1.heap.size, 0, none⟩ = some (.int .u8 kind) := hb5.reads (by go_simp)
    have t1_5 : w5.cell? ⟨w1.heap.size, 1, none⟩ = some (.int .u64 A) := hb5.reads (by go_simp)
    have t2_5 : w5.cell? ⟨w1.heap.size, 2, none⟩ = some (.int .u64 B) := hb5.reads (by go_simp)
    have zt_5 : w1.heap.size < w5.heap.size := World.block_lt_of_cell? w5 _ t0_5
    have x0_5 : w5.cell? ⟨w2.heap.size, 0, none⟩ = some (.int .u8 0) := hb5.reads (by go_simp)
    have x1_5 : w5.cell? ⟨w2.heap.size, 1, none⟩ = some (.int .u64 0) := hb5.reads (by go_simp)
    have x2_5 : w5.cell? ⟨w2.heap.size, 2, none⟩ = some (.int .u64 0) := hb5.reads (by go_simp)
    have zx_5 : w2.heap.size < w5.heap.size := World.block_lt_of_cell? w5 _ x0_5
    clear s0_4 s1_4 s2_4 zs_4 t0_4 t1_4 t2_4 zt_4 x0_4 x1_4 x2_4 zx_4
    go_wp2_with fail
    refine (kFill kind A B now most hA hB hn hm _).mono ?_
    rw [fil_0 _ _ _ _ H1.out H2.out H3.out]
    rintro e w6 ⟨rfl, hb6⟩
    have s0_6 : w6.cell? ⟨w.heap.size, 0, none⟩ = some (.int .u8 kind) := hb6.reads (by go_simp)
    have s1_6 : w6.cell? ⟨w.heap.size, 1, none⟩ = some (.int .u64 A) := hb6.reads (by go_simp)
    have s2_6 : w6.cell? ⟨w.heap.size, 2, none⟩ = some (.int .u64 B) := hb6.reads (by go_simp)
    have zs_6 : w.heap.size < w6.heap.size := World.block_lt_of_cell? w6 _ s0_6
    have t0_6 : w6.cell? ⟨w1.heap.size, 0, none⟩ = some (.int .u8 kind) := hb6.reads (by go_simp)
    have t1_6 : w6.cell? ⟨w1.heap.size, 1, none⟩ = some (.int .u64 A) := hb6.reads (by go_simp)
    have t2_6 : w6.cell? ⟨w1.heap.size, 2, none⟩ = some (.int .u64 B) := hb6.reads (by go_simp)
    have zt_6 : w1.heap.size < w6.heap.size := World.block_lt_of_cell? w6 _ t0_6
    have x0_6 : w6.cell? ⟨w2.heap.size, 0, none⟩ = some (.int .u8 0) := hb6.reads (by go_simp)
    have x1_6 : w6.cell? ⟨w2.heap.size, 1, none⟩ = some (.int .u64 0) := hb6.reads (by go_simp)
    have x2_6 : w6.cell? ⟨w2.heap.size, 2, none⟩ = some (.int .u64 0) := hb6.reads (by go_simp)
    have zx_6 : w2.heap.size < w6.heap.size := World.block_lt_of_cell? w6 _ x0_6
    clear s0_5 s1_5 s2_5 zs_5 t0_5 t1_5 t2_5 zt_5 x0_5 x1_5 x2_5 zx_5
    go_wp2_with fail
    refine (kUntil kind A B now most hA hB hn hm _).mono ?_
    rw [H.out.2]
    rintro e w7 ⟨rfl, hb7⟩
    have s0_7 : w7.cell? ⟨w.heap.size, 0, none⟩ = some (.int .u8 kind) := hb7.reads (by go_simp)
    have s1_7 : w7.cell? ⟨w.heap.size, 1, none⟩ = some (.int .u64 A) := hb7.reads (by go_simp)
    have s2_7 : w7.cell? ⟨w.heap.size, 2, none⟩ = some (.int .u64 B) := hb7.reads (by go_simp)
    have zs_7 : w.heap.size < w7.heap.size := World.block_lt_of_cell? w7 _ s0_7
    have t0_7 : w7.cell? ⟨w1.heap.size, 0, none⟩ = some (.int .u8 kind) := hb7.reads (by go_simp)
    have t1_7 : w7.cell? ⟨w1.heap.size, 1, none⟩ = some (.int .u64 A) := hb7.reads (by go_simp)
    have t2_7 : w7.cell? ⟨w1.heap.size, 2, none⟩ = some (.int .u64 B) := hb7.reads (by go_simp)
    have zt_7 : w1.heap.size < w7.heap.size := World.block_lt_of_cell? w7 _ t0_7
    have x0_7 : w7.cell? ⟨w2.heap.size, 0, none⟩ = some (.int .u8 0) := hb7.reads (by go_simp)
    have x1_7 : w7.cell? ⟨w2.heap.size, 1, none⟩ = some (.int .u64 0) := hb7.reads (by go_simp)
    have x2_7 : w7.cell? ⟨w2.heap.size, 2, none⟩ = some (.int .u64 0) := hb7.reads (by go_simp)
    have zx_7 : w2.heap.size < w7.heap.size := World.block_lt_of_cell? w7 _ x0_7
    clear s0_6 s1_6 s2_6 zs_6 t0_6 t1_6 t2_6 zt_6 x0_6 x1_6 x2_6 zx_6
    go_wp2
    go_ret
    exact ⟨rfl, by repeat (first | exact Ext.refl _ | assumption | apply Ext.drew | apply Ext.alloc | (refine Ext.setCell ?_ (by simp <;> omega) _) | refine Ext.trans ?_ (by assumption))⟩

theorem kNoneLaw (k0 A B kind now most v : Int) (h0 : 0 ≤ k0 ∧ k0 ≤ 255) (hA : U A) (hB : U B) (hk : 0 ≤ kind ∧ kind ≤ 255) (hn : U now) (hm : U most) (hv : U v) (w : World) :
    Calls Try.prog 14 #[.agg #[.int .u8 k0, .int .u64 A, .int .u64 B], .int .u8 kind, .int .u64 now, .int .u64 most, .int .u64 v] w fun e w' => e = .returned (.bool true) ∧ Ext w w' := by
  rcases kcase kind with h | h | h | ⟨h1, h2, h3⟩
  · exact kNone1 k0 A B kind now most v (.inl h) hA hB hn hm hv w
  · exact kNone1 k0 A B kind now most v (.inr (.inl h)) hA hB hn hm hv w
  · exact kNone1 k0 A B kind now most v (.inr (.inr h)) hA hB hn hm hv w
  · exact kNone0 k0 A B kind now most v h1 h2 h3 (by omega) hA hB hn hm hv w

end Go.Proofs.Ytfabgfenelaheaa
