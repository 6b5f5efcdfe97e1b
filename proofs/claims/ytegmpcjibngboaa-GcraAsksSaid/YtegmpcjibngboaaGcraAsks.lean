/- GcraAsks: the walk. -/
import Derived.Test.YtegmpcjibngboaaGcraKnown
set_option linter.unusedVariables false
namespace Go.Proofs.Ytegmpcjibngboaa
open Go.RowKit

attribute [local go_sem] ite_min ite_max

set_option maxHeartbeats 1000000 in
theorem gAsks (k A B now cap v : Int) (hA : U A) (hB : U B) (hn : U now) (hc : U cap) (hv : U v) (w : World) :
    Calls Try.prog 33 #[.agg #[.int .u8 k, .int .u64 A, .int .u64 B], .int .u64 now, .int .u64 cap, .int .u64 v] w fun e w' => e = .returned (.bool true) ∧ Ext w w' := by
  go_enter Try.func33, Try.ntmps33
  go_wp2_with fail
  refine (gDecide k A B now cap v hA hB hn hc hv _).mono ?_
  rintro e1 w1 ⟨rfl, hb1⟩
  have z1 : w.heap.size < w1.heap.size := by have := hb1.size; simp at this; omega
  have s0 : w1.cell? ⟨w.heap.size, 0, none⟩ = some (.int .u8 k) := hb1.reads (by go_simp)
  have s1 : w1.cell? ⟨w.heap.size, 1, none⟩ = some (.int .u64 A) := hb1.reads (by go_simp)
  have s2 : w1.cell? ⟨w.heap.size, 2, none⟩ = some (.int .u64 B) := hb1.reads (by go_simp)
  obtain ⟨k', ek⟩ : ∃ x, gK k A B now cap v = x := ⟨_, rfl⟩
  obtain ⟨A', eA⟩ : ∃ x, gA A B now cap v = x := ⟨_, rfl⟩
  obtain ⟨B', eB⟩ : ∃ x, gB A B now cap v = x := ⟨_, rfl⟩
  obtain ⟨o', eo⟩ : ∃ x, gok A B now cap v = x := ⟨_, rfl⟩
  rw [ek, eA, eB, eo]
  have hk := Lib.hid ek; have hA' := Lib.hid eA; have hB' := Lib.hid eB; have ho' := Lib.hid eo
  clear ek eA eB eo
  go_wp2_with fail
  refine (r6Decide k A B now cap v hA hB hn hc hv _).mono ?_
  rintro e2 w2 ⟨rfl, hb2⟩
  rw [hk.out, hA'.out, hB'.out, ho'.out]
  have z2 : w1.heap.size < w2.heap.size := by have := hb2.size; simp at this; omega
  have t0 : w2.cell? ⟨w1.heap.size, 0, none⟩ = some (.int .u8 k') := hb2.reads (by go_simp)
  have t1 : w2.cell? ⟨w1.heap.size, 1, none⟩ = some (.int .u64 A') := hb2.reads (by go_simp)
  have t2 : w2.cell? ⟨w1.heap.size, 2, none⟩ = some (.int .u64 B') := hb2.reads (by go_simp)
  have s0' : w2.cell? ⟨w.heap.size, 0, none⟩ = some (.int .u8 k) := hb2.reads (by go_simp)
  have s1' : w2.cell? ⟨w.heap.size, 1, none⟩ = some (.int .u64 A) := hb2.reads (by go_simp)
  have s2' : w2.cell? ⟨w.heap.size, 2, none⟩ = some (.int .u64 B) := hb2.reads (by go_simp)
  clear s0 s1 s2
  go_wp2_with fail
  go_region_held3 (fun w' => w'.cell? ⟨w.heap.size, 0, none⟩ = some (.int .u8 k) ∧ w'.cell? ⟨w.heap.size, 1, none⟩ = some (.int .u64 A) ∧ w'.cell? ⟨w.heap.size, 2, none⟩ = some (.int .u64 B) ∧
      w'.cell? ⟨w1.heap.size, 0, none⟩ = some (.int .u8 k') ∧ w'.cell? ⟨w1.heap.size, 1, none⟩ = some (.int .u64 A') ∧ w'.cell? ⟨w1.heap.size, 2, none⟩ = some (.int .u64 B') ∧
      w'.cell? ⟨w2.heap.size, 0, none⟩ = some (.int .u8 k') ∧ w'.cell? ⟨w2.heap.size, 1, none⟩ = some (.int .u64 A') ∧ w'.cell? ⟨w2.heap.size, 2, none⟩ = some (.int .u64 B'))
    (first
      | go_keep
      | (go_split_ands
         refine ⟨hb.reads ?_, hb.reads ?_, hb.reads ?_, hb.reads ?_, hb.reads ?_, hb.reads ?_, hb.reads ?_, hb.reads ?_, hb.reads ?_⟩ <;> assumption))
    (first
      | (go_at_call 35; refine (gFill' k A B now cap hA hB hn hc _).mono ?_; rintro e w3 ⟨rfl, hb⟩)
      | (go_at_call 48; refine (r6Fill' k A B now cap hA hB hn hc _).mono ?_; rintro e w3 ⟨rfl, hb⟩)
      | (go_at_call 34; refine (gOf' now cap v hn hc hv _).mono ?_; rintro e w3 ⟨rfl, hb⟩)
      | (go_at_call 49; refine (r6Of' now cap v hn hc hv _).mono ?_; rintro e w3 ⟨rfl, hb⟩))
  go_wp2
  go_ret
  exact ⟨rfl, by repeat (first | exact Ext.refl _ | assumption | apply Ext.drew | apply Ext.alloc | (refine Ext.setCell ?_ (by simp <;> omega) _) | refine Ext.trans ?_ (by assumption))⟩

theorem gAsksAll (k0 A0 B0 now most v k a b c d : Int) (h0 : 0 ≤ k0 ∧ k0 ≤ 255) (hA : U A0) (hB : U B0) (hn : U now) (hm : U most) (hv : U v) (hk : 0 ≤ k ∧ k ≤ 255)
    (ha : 0 ≤ a ∧ a ≤ 65535) (hb : 0 ≤ b ∧ b ≤ 65535) (hc : 0 ≤ c ∧ c ≤ 65535) (hd : 0 ≤ d ∧ d ≤ 65535) (w : World) :
    Calls Try.prog 15 #[.agg #[.int .u8 k0, .int .u64 A0, .int .u64 B0], .int .u64 now, .int .u64 most, .int .u64 v, .int .u8 k, .int .u16 a, .int .u16 b, .int .u16 c, .int .u16 d] w
      fun e w' => e = .returned (.bool true) ∧ Ext w w' := by
  obtain ⟨hv1, hv2⟩ := hv
  obtain ⟨hm1, hm2⟩ := hm
  obtain ⟨hk1, hk2⟩ := hk
  obtain ⟨ha1, ha2⟩ := ha
  obtain ⟨hb1, hb2⟩ := hb
  obtain ⟨hc1, hc2⟩ := hc
  obtain ⟨hd1, hd2⟩ := hd
  go_enter Try.func15, Try.ntmps15
  go_wp2_with fail
  refine (gKnown _).mono ?_
  rintro e1 w1 ⟨rfl, hb1⟩
  have z1 : w.heap.size + 1 < w1.heap.size := by have := hb1.size; simp at this; omega
  have s0 : w1.cell? ⟨w.heap.size, 0, none⟩ = some (.int .u8 k0) := hb1.reads (by go_simp)
  have s1 : w1.cell? ⟨w.heap.size, 1, none⟩ = some (.int .u64 A0) := hb1.reads (by go_simp)
  have s2 : w1.cell? ⟨w.heap.size, 2, none⟩ = some (.int .u64 B0) := hb1.reads (by go_simp)
  have o0 : w1.cell? ⟨w.heap.size + 1, 0, none⟩ = some (.int .u8 (k % 5)) := hb1.reads (by go_simp)
  have o1 : w1.cell? ⟨w.heap.size + 1, 1, none⟩ = some (.int .u64 a) := hb1.reads (by go_simp)
  have o2 : w1.cell? ⟨w.heap.size + 1, 2, none⟩ = some (.int .u64 b) := hb1.reads (by go_simp)
  go_wp2_with fail
  refine (gAsks k0 A0 B0 now most v hA hB hn ⟨hm1, hm2⟩ ⟨hv1, hv2⟩ _).mono ?_
  rintro e2 w2 ⟨rfl, hb2⟩
  have s'0 := hb2.reads s0
  have s'1 := hb2.reads s1
  have s'2 := hb2.reads s2
  have o'0 := hb2.reads o0
  have o'1 := hb2.reads o1
  have o'2 := hb2.reads o2
  go_wp2_with fail
  refine (gAsks (k % 5) a b c d _ (by unfold U; omega) (by unfold U; omega) (by unfold U; omega) (by unfold U; omega) (shr_U ⟨hv1, hv2⟩ _) _).mono ?_
  rintro e3 w3 ⟨rfl, hb3⟩
  have s''0 := hb3.reads s'0
  have s''1 := hb3.reads s'1
  have s''2 := hb3.reads s'2
  have o''0 := hb3.reads o'0
  have o''1 := hb3.reads o'1
  have o''2 := hb3.reads o'2
  go_wp2_with fail
  refine (gAsks k0 A0 B0 now most _ hA hB hn ⟨hm1, hm2⟩ (shr_U ⟨hm1, hm2⟩ _) _).mono ?_
  rintro e4 w4 ⟨rfl, hb4⟩
  have t0 := hb4.reads o''0
  have t1 := hb4.reads o''1
  have t2 := hb4.reads o''2
  go_wp2_with fail
  refine (gAsks (k % 5) a b c most d (by unfold U; omega) (by unfold U; omega) (by unfold U; omega) ⟨hm1, hm2⟩ (by unfold U; omega) _).mono ?_
  rintro e5 w5 ⟨rfl, hb5⟩
  go_wp2_with fail
  go_ret
  exact ⟨rfl, by repeat (first | exact Ext.refl _ | assumption | apply Ext.drew | apply Ext.alloc | (refine Ext.setCell ?_ (by simp <;> omega) _) | refine Ext.trans ?_ (by assumption))⟩

end Go.Proofs.Ytegmpcjibngboaa
