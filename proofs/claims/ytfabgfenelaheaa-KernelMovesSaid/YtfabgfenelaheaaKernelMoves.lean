/- The walk of the law KernelMoves. -/
import Derived.Test.YtfabgfenelaheaaKernelQ
import Derived.Test.YtfabgfenelaheaaSpecKL
import Derived.IntWalk
set_option linter.unusedVariables false
namespace Go.Proofs.Ytfabgfenelaheaa
open Go.RowKit

attribute [local go_sem] ite_min ite_max

set_option maxRecDepth 20000 in
set_option maxHeartbeats 8000000 in
theorem kMovesLaw (kind to via now most fill d : Int) (hk : 0 ≤ kind ∧ kind ≤ 255) (ht : 0 ≤ to ∧ to ≤ 255) (hv : 0 ≤ via ∧ via ≤ 255) (h1 : U now) (h2 : U most) (h3 : U fill) (h5 : 0 ≤ d ∧ d ≤ 4294967295) (w : World) :
    Calls Try.prog 10 #[.int .u8 kind, .int .u8 to, .int .u8 via, .int .u64 now, .int .u64 most, .int .u64 fill, .int .u32 d] w fun e w' => e = .returned (.bool true) ∧ Ext w w' := by
  have ha : 0 ≤ now / 4 ∧ now / 4 ≤ 4611686018427387903 := by unfold U at h1; omega
  have hm : 0 ≤ most / 4 ∧ most / 4 ≤ 4611686018427387903 := by unfold U at h2; omega
  have hK := Kin.of kind
  have hT := Kin.of to
  have hV := Kin.of via
  obtain ⟨a, ea⟩ : ∃ x, now / 4 = x := ⟨_, rfl⟩
  obtain ⟨m, em⟩ : ∃ x, most / 4 = x := ⟨_, rfl⟩
  obtain ⟨f, ef⟩ : ∃ x, min fill m = x := ⟨_, rfl⟩
  obtain ⟨K, eK⟩ : ∃ x, 1 + kind % 3 = x := ⟨_, rfl⟩
  obtain ⟨T, eT⟩ : ∃ x, 1 + to % 3 = x := ⟨_, rfl⟩
  obtain ⟨V, eV⟩ : ∃ x, 1 + via % 3 = x := ⟨_, rfl⟩
  rw [ea] at ha
  rw [em] at hm
  rw [eK] at hK
  rw [eT] at hT
  rw [eV] at hV
  have bK : 1 ≤ K ∧ K ≤ 3 := by omega
  have bT : 1 ≤ T ∧ T ≤ 3 := by omega
  have bV : 1 ≤ V ∧ V ≤ 3 := by omega
  have hf0 : 0 ≤ f := by unfold U at *; omega
  have hfm : f ≤ m := by omega
  have uf : U f := by unfold U; omega
  have ut : U a := by unfold U; omega
  have um : U m := by unfold U; omega
  have hud : 0 ≤ usub f d ∧ usub f d ≤ f := by unfold usub; omega
  have ug : U (usub f d) := by unfold U; omega
  have uT : U (a + d) := by unfold U; omega
  have uL : U (a + 2 * d) := by unfold U; omega
  have uA := oA_U K ut um uf
  have uB := oB_U K ut
  have uA2 := oA_U T uT um ug
  have uB2 := oB_U T uT
  have uA3 := oA_U V uT um ug
  have uB3 := oB_U V uT
  have hP := move_plain hK hT hV ha.1 ha.2 hf0 hfm hm.2 h5.1 h5.2
  have hg : mE K 0 = 27 ∧ mE 9 1 = 27 := by
    constructor
    · unfold mE; rw [if_pos hK.isK]; rfl
    · rfl
  have HO := Lib.hid (And.intro hK.oK hK.oE)
  obtain ⟨A, eA⟩ : ∃ x, oA K a m f = x := ⟨_, rfl⟩
  obtain ⟨B, eB⟩ : ∃ x, oB K a = x := ⟨_, rfl⟩
  obtain ⟨A2, eA2⟩ : ∃ x, oA T (a + d) m (usub f d) = x := ⟨_, rfl⟩
  obtain ⟨B2, eB2⟩ : ∃ x, oB T (a + d) = x := ⟨_, rfl⟩
  obtain ⟨A3, eA3⟩ : ∃ x, oA V (a + d) m (usub f d) = x := ⟨_, rfl⟩
  obtain ⟨B3, eB3⟩ : ∃ x, oB V (a + d) = x := ⟨_, rfl⟩
  rw [eA] at uA hP
  rw [eB] at uB hP
  rw [eA2] at uA2 hP
  rw [eB2] at uB2 hP
  rw [eA3] at uA3 hP
  rw [eB3] at uB3 hP
  have HA := Lib.hid (And.intro eA eB)
  have HP := Lib.hid hP
  have HG := Lib.hid hg
  clear eA eB eA2 eB2 eA3 eB3 hK hT hV hP hg
  obtain ⟨h1a, h1b⟩ := h1
  obtain ⟨h2a, h2b⟩ := h2
  obtain ⟨h3a, h3b⟩ := h3
  obtain ⟨h5a, h5b⟩ := h5
  obtain ⟨hk1, hk2⟩ := hk
  obtain ⟨ht1, ht2⟩ := ht
  obtain ⟨hv1, hv2⟩ := hv
  obtain ⟨bK1, bK2⟩ := bK
  obtain ⟨bT1, bT2⟩ := bT
  obtain ⟨bV1, bV2⟩ := bV
  obtain ⟨ha1, ha2⟩ := ha
  obtain ⟨hm1, hm2⟩ := hm
  go_enter Try.func10, Try.ntmps10
  go_wp2_with fail
  refine (kOf K a m f ut um uf _).mono ?_
  rw [HO.out.1, HO.out.2, HA.out.1, HA.out.2]
  rintro e w1 ⟨rfl, hb1⟩
  go_wp2_with fail
  refine (kMigrate K A B T (a + d) m uA uB uT um _).mono ?_
  rw [HP.out.2.1, HP.out.2.2.1, HP.out.2.2.2.2.2.1, HP.out.2.2.2.2.2.2.1]
  rintro e w2 ⟨rfl, hb2⟩
  have s0_2 : w2.cell? ⟨w1.heap.size, 0, none⟩ = some (.int .u8 K) := hb2.reads (by go_simp)
  have s1_2 : w2.cell? ⟨w1.heap.size, 1, none⟩ = some (.int .u64 A) := hb2.reads (by go_simp)
  have s2_2 : w2.cell? ⟨w1.heap.size, 2, none⟩ = some (.int .u64 B) := hb2.reads (by go_simp)
  have zs_2 : w1.heap.size < w2.heap.size := World.block_lt_of_cell? w2 _ s0_2
  go_wp2_with fail
  refine (kMigrate T A2 B2 V (a + d) m uA2 uB2 uT um _).mono ?_
  rw [HP.out.2.2.2.1, HP.out.2.2.2.2.1, HP.out.2.2.2.2.2.2.2.1, HP.out.2.2.2.2.2.2.2.2.1]
  rintro e w3 ⟨rfl, hb3⟩
  have s0_3 : w3.cell? ⟨w1.heap.size, 0, none⟩ = some (.int .u8 K) := hb3.reads (by go_simp)
  have s1_3 : w3.cell? ⟨w1.heap.size, 1, none⟩ = some (.int .u64 A) := hb3.reads (by go_simp)
  have s2_3 : w3.cell? ⟨w1.heap.size, 2, none⟩ = some (.int .u64 B) := hb3.reads (by go_simp)
  have zs_3 : w1.heap.size < w3.heap.size := World.block_lt_of_cell? w3 _ s0_3
  have t0_3 : w3.cell? ⟨w2.heap.size, 0, none⟩ = some (.int .u8 T) := hb3.reads (by go_simp)
  have t1_3 : w3.cell? ⟨w2.heap.size, 1, none⟩ = some (.int .u64 A2) := hb3.reads (by go_simp)
  have t2_3 : w3.cell? ⟨w2.heap.size, 2, none⟩ = some (.int .u64 B2) := hb3.reads (by go_simp)
  have zt_3 : w2.heap.size < w3.heap.size := World.block_lt_of_cell? w3 _ t0_3
  clear s0_2 s1_2 s2_2 zs_2
  go_wp2_with fail
  refine (kMigrate K A B 0 a m uA uB ut um _).mono ?_
  rw [HG.out.1]
  rintro e w4 ⟨rfl, hb4⟩
  have s0_4 : w4.cell? ⟨w1.heap.size, 0, none⟩ = some (.int .u8 K) := hb4.reads (by go_simp)
  have s1_4 : w4.cell? ⟨w1.heap.size, 1, none⟩ = some (.int .u64 A) := hb4.reads (by go_simp)
  have s2_4 : w4.cell? ⟨w1.heap.size, 2, none⟩ = some (.int .u64 B) := hb4.reads (by go_simp)
  have zs_4 : w1.heap.size < w4.heap.size := World.block_lt_of_cell? w4 _ s0_4
  have t0_4 : w4.cell? ⟨w2.heap.size, 0, none⟩ = some (.int .u8 T) := hb4.reads (by go_simp)
  have t1_4 : w4.cell? ⟨w2.heap.size, 1, none⟩ = some (.int .u64 A2) := hb4.reads (by go_simp)
  have t2_4 : w4.cell? ⟨w2.heap.size, 2, none⟩ = some (.int .u64 B2) := hb4.reads (by go_simp)
  have zt_4 : w2.heap.size < w4.heap.size := World.block_lt_of_cell? w4 _ t0_4
  have u0_4 : w4.cell? ⟨w3.heap.size, 0, none⟩ = some (.int .u8 V) := hb4.reads (by go_simp)
  have u1_4 : w4.cell? ⟨w3.heap.size, 1, none⟩ = some (.int .u64 A3) := hb4.reads (by go_simp)
  have u2_4 : w4.cell? ⟨w3.heap.size, 2, none⟩ = some (.int .u64 B3) := hb4.reads (by go_simp)
  have zu_4 : w3.heap.size < w4.heap.size := World.block_lt_of_cell? w4 _ u0_4
  clear s0_3 s1_3 s2_3 zs_3 t0_3 t1_3 t2_3 zt_3
  go_wp2_with fail
  refine (kMigrate 9 0 0 1 a m (by unfold U; omega) (by unfold U; omega) ut um _).mono ?_
  rw [HG.out.2]
  rintro e w5 ⟨rfl, hb5⟩
  have s0_5 : w5.cell? ⟨w1.heap.size, 0, none⟩ = some (.int .u8 K) := hb5.reads (by go_simp)
  have s1_5 : w5.cell? ⟨w1.heap.size, 1, none⟩ = some (.int .u64 A) := hb5.reads (by go_simp)
  have s2_5 : w5.cell? ⟨w1.heap.size, 2, none⟩ = some (.int .u64 B) := hb5.reads (by go_simp)
  have zs_5 : w1.heap.size < w5.heap.size := World.block_lt_of_cell? w5 _ s0_5
  have t0_5 : w5.cell? ⟨w2.heap.size, 0, none⟩ = some (.int .u8 T) := hb5.reads (by go_simp)
  have t1_5 : w5.cell? ⟨w2.heap.size, 1, none⟩ = some (.int .u64 A2) := hb5.reads (by go_simp)
  have t2_5 : w5.cell? ⟨w2.heap.size, 2, none⟩ = some (.int .u64 B2) := hb5.reads (by go_simp)
  have zt_5 : w2.heap.size < w5.heap.size := World.block_lt_of_cell? w5 _ t0_5
  have u0_5 : w5.cell? ⟨w3.heap.size, 0, none⟩ = some (.int .u8 V) := hb5.reads (by go_simp)
  have u1_5 : w5.cell? ⟨w3.heap.size, 1, none⟩ = some (.int .u64 A3) := hb5.reads (by go_simp)
  have u2_5 : w5.cell? ⟨w3.heap.size, 2, none⟩ = some (.int .u64 B3) := hb5.reads (by go_simp)
  have zu_5 : w3.heap.size < w5.heap.size := World.block_lt_of_cell? w5 _ u0_5
  clear s0_4 s1_4 s2_4 zs_4 t0_4 t1_4 t2_4 zt_4 u0_4 u1_4 u2_4 zu_4
  go_wp2
  have HWD := Lib.hid (show IntKind.u64.wrap (a + d) = a + d by rw [IntKind.wrap_u64]; omega)
  have HWT := Lib.hid (show IntKind.u8.wrap (1 + to.tmod 3) = T by rw [Int.tmod_eq_emod_of_nonneg ht1, IntKind.wrap_u8]; omega)
  have HWE := Lib.hid (show IntKind.u64.wrap d = d by rw [IntKind.wrap_u64]; omega)
  have hx : Ext w w5 := by repeat (first | exact Ext.refl _ | assumption | apply Ext.drew | apply Ext.alloc | (refine Ext.setCell ?_ (by simp <;> omega) _) | refine Ext.trans ?_ (by assumption))
  have hwd := HWD.out
  have hwe := HWE.out
  have hwt := HWT.out
  clear hb1 hb2 hb3 hb4 hb5 zs_5 zt_5 zu_5 hf0 hfm hud HO HA HG uf ug
  go_region_held3 (fun w' => w'.cell? ⟨w1.heap.size, 0, none⟩ = some (.int .u8 K) ∧ w'.cell? ⟨w1.heap.size, 1, none⟩ = some (.int .u64 A) ∧ w'.cell? ⟨w1.heap.size, 2, none⟩ = some (.int .u64 B) ∧ w'.cell? ⟨w2.heap.size, 0, none⟩ = some (.int .u8 T) ∧ w'.cell? ⟨w2.heap.size, 1, none⟩ = some (.int .u64 A2) ∧ w'.cell? ⟨w2.heap.size, 2, none⟩ = some (.int .u64 B2) ∧ w'.cell? ⟨w3.heap.size, 0, none⟩ = some (.int .u8 V) ∧ w'.cell? ⟨w3.heap.size, 1, none⟩ = some (.int .u64 A3) ∧ w'.cell? ⟨w3.heap.size, 2, none⟩ = some (.int .u64 B3))
    (first
      | (go_split_ands
         refine ⟨hb.reads ?_, hb.reads ?_, hb.reads ?_, hb.reads ?_, hb.reads ?_, hb.reads ?_, hb.reads ?_, hb.reads ?_, hb.reads ?_⟩ <;> assumption)
      | (refine ⟨?_, ?_, ?_, ?_, ?_, ?_, ?_, ?_, ?_⟩ <;> assumption)
      | go_keep)
    (first
      | (go_at_call 31; refine (kKnown _).mono ?_; rintro e w6 ⟨rfl, hb⟩)
      | (go_at_call_of 32 (Value.int .u64 A2); refine (kFill T A2 B2 (a + d) m uA2 uB2 uT um _).mono ?_; rw [HP.out.2.2.2.2.2.2.2.2.2.2.1]; rintro e w6 ⟨rfl, hb⟩)
      | (go_at_call_of 32 (Value.int .u64 A3); refine (kFill V A3 B3 (a + 2 * d) m uA3 uB3 uL um _).mono ?_; rw [HP.out.2.2.2.2.2.2.2.2.2.2.2.2]; rintro e w6 ⟨rfl, hb⟩)
      | (go_at_call_of 32 (Value.int .u64 A); go_at_call_of 32 (Value.int .u64 a); refine (kFill K A B a m uA uB ut um _).mono ?_; rw [HP.out.1]; rintro e w6 ⟨rfl, hb⟩)
      | (go_at_call_of 32 (Value.int .u64 A); go_at_call_of 32 (Value.int .u64 (a + d)); refine (kFill K A B (a + d) m uA uB uT um _).mono ?_; rw [HP.out.2.2.2.2.2.2.2.2.2.1]; rintro e w6 ⟨rfl, hb⟩)
      | (go_at_call_of 32 (Value.int .u64 A); refine (kFill K A B (a + 2 * d) m uA uB uL um _).mono ?_; rw [HP.out.2.2.2.2.2.2.2.2.2.2.2.1]; rintro e w6 ⟨rfl, hb⟩))
  go_wp2
  go_ret
  exact ⟨rfl, by repeat (first | exact Ext.refl _ | assumption | apply Ext.drew | apply Ext.alloc | (refine Ext.setCell ?_ (by simp <;> omega) _) | refine Ext.trans ?_ (by assumption))⟩

end Go.Proofs.Ytfabgfenelaheaa
