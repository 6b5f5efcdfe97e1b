/- GcraKind: the walk. -/
import Derived.Test.YtegmpcjibngboaaGcraKnown
import Derived.WalkSpells
set_option linter.unusedVariables false
namespace Go.Proofs.Ytegmpcjibngboaa
open Go.RowKit

theorem g_case (A now cap v : Int) : (∃ K' A' B', ∀ k B, gK k A B now cap v = K' ∧ gA A B now cap v = A' ∧ gB A B now cap v = B' ∧ gok A B now cap v = true) ∨
    (∀ k B, gK k A B now cap v = k ∧ gA A B now cap v = A ∧ gB A B now cap v = B ∧ gok A B now cap v = false) := by
  by_cases h : max A now - now + v ≤ cap
  · exact Or.inl ⟨_, _, _, fun k B => g_yes h⟩
  · exact Or.inr fun k B => g_no h

attribute [local go_sem] ite_min ite_max

set_option maxHeartbeats 1000000 in
theorem gKind (k0 A0 B0 k b now most v : Int) (h0 : 0 ≤ k0 ∧ k0 ≤ 255) (hA : U A0) (hB : U B0) (hk : 0 ≤ k ∧ k ≤ 255) (hbU : U b) (hn : U now) (hm : U most) (hv : U v) (w : World) :
    Calls Try.prog 19 #[.agg #[.int .u8 k0, .int .u64 A0, .int .u64 B0], .int .u8 k, .int .u64 b, .int .u64 now, .int .u64 most, .int .u64 v] w
      fun e w' => e = .returned (.bool true) ∧ Ext w w' := by
  obtain ⟨F, eF⟩ : ∃ F, usub A0 now = F := ⟨_, rfl⟩
  have HF := Lib.hid eF
  clear eF
  go_enter Try.func19, Try.ntmps19
  go_wp2_with fail
  refine (gDecide k0 A0 B0 now most v hA hB hn hm hv _).mono ?_
  rintro e1 w1 ⟨rfl, hb1⟩
  have z1 : w.heap.size + 1 < w1.heap.size := by have := hb1.size; simp at this; omega
  have s0 : w1.cell? ⟨w.heap.size, 0, none⟩ = some (.int .u8 k0) := hb1.reads (by go_simp)
  have s1 : w1.cell? ⟨w.heap.size, 1, none⟩ = some (.int .u64 A0) := hb1.reads (by go_simp)
  have s2 : w1.cell? ⟨w.heap.size, 2, none⟩ = some (.int .u64 B0) := hb1.reads (by go_simp)
  have t0 : w1.cell? ⟨w.heap.size + 1, 0, none⟩ = some (.int .u8 k) := hb1.reads (by go_simp)
  have t1 : w1.cell? ⟨w.heap.size + 1, 1, none⟩ = some (.int .u64 A0) := hb1.reads (by go_simp)
  have t2 : w1.cell? ⟨w.heap.size + 1, 2, none⟩ = some (.int .u64 b) := hb1.reads (by go_simp)
  rcases g_case A0 now most v with ⟨K', A', B', hY⟩ | hY
  · obtain ⟨y1, y2, y3, y4⟩ := hY k0 B0
    rw [y1, y2, y3, y4]
    have Y := Lib.hid (hY k b)
    clear y1 y2 y3 y4 hY
    go_wp2_with fail
    refine (gDecide k A0 b now most v hA hbU hn hm hv _).mono ?_
    rintro e2 w2 ⟨rfl, hb2⟩
    rw [Y.out.1, Y.out.2.1, Y.out.2.2.1, Y.out.2.2.2]
    have z2 : w1.heap.size < w2.heap.size := by have := hb2.size; simp at this; omega
    have z3 : w.heap.size < w2.heap.size := by omega
    have z4 : w.heap.size + 1 < w2.heap.size := by omega
    have s'0 := hb2.past.reads s0
    have s'1 := hb2.past.reads s1
    have s'2 := hb2.past.reads s2
    have t'0 := hb2.past.reads t0
    have t'1 := hb2.past.reads t1
    have t'2 := hb2.past.reads t2
    have a0 : w2.cell? ⟨w1.heap.size, 0, none⟩ = some (.int .u8 K') := hb2.reads (by go_simp)
    have a1 : w2.cell? ⟨w1.heap.size, 1, none⟩ = some (.int .u64 A') := hb2.reads (by go_simp)
    have a2 : w2.cell? ⟨w1.heap.size, 2, none⟩ = some (.int .u64 B') := hb2.reads (by go_simp)
    go_wp2_with fail
    go_region_held3 (fun w' => w'.cell? ⟨w.heap.size, 0, none⟩ = some (.int .u8 k0) ∧ w'.cell? ⟨w.heap.size, 1, none⟩ = some (.int .u64 A0) ∧ w'.cell? ⟨w.heap.size, 2, none⟩ = some (.int .u64 B0) ∧ w'.cell? ⟨w.heap.size + 1, 0, none⟩ = some (.int .u8 k) ∧ w'.cell? ⟨w.heap.size + 1, 1, none⟩ = some (.int .u64 A0) ∧ w'.cell? ⟨w.heap.size + 1, 2, none⟩ = some (.int .u64 b) ∧ w'.cell? ⟨w1.heap.size, 0, none⟩ = some (.int .u8 K') ∧ w'.cell? ⟨w1.heap.size, 1, none⟩ = some (.int .u64 A') ∧ w'.cell? ⟨w1.heap.size, 2, none⟩ = some (.int .u64 B') ∧ w'.cell? ⟨w2.heap.size, 0, none⟩ = some (.int .u8 K') ∧ w'.cell? ⟨w2.heap.size, 1, none⟩ = some (.int .u64 A') ∧ w'.cell? ⟨w2.heap.size, 2, none⟩ = some (.int .u64 B'))
      (first
        | go_keep
        | (go_split_ands
           refine ⟨hb.reads ?_, hb.reads ?_, hb.reads ?_, hb.reads ?_, hb.reads ?_, hb.reads ?_, hb.reads ?_, hb.reads ?_, hb.reads ?_, hb.reads ?_, hb.reads ?_, hb.reads ?_⟩ <;> assumption))
      (first
        | (go_at_call 35; refine (gFill _ A0 _ now most hA (by assumption) hn _).mono ?_; rintro e w3 ⟨rfl, hb⟩; rw [HF.out]))
    rename_i hH
    obtain ⟨a1, a2, a3, b1, b2, b3, c1, c2, c3, d1, d2, d3⟩ := hH
    go_wp2_with fail
    refine (gKnown _).mono ?_
    rintro e4 w4 ⟨rfl, hb4⟩
    have c1' := hb4.reads c1
    have c2' := hb4.reads c2
    have c3' := hb4.reads c3
    have d1' := hb4.reads d1
    have d2' := hb4.reads d2
    have d3' := hb4.reads d3
    go_wp2
    go_ret
    exact ⟨rfl, by repeat (first | exact Ext.refl _ | assumption | apply Ext.drew | apply Ext.alloc | (refine Ext.setCell ?_ (by simp <;> omega) _) | refine Ext.trans ?_ (by assumption))⟩
  · obtain ⟨y1, y2, y3, y4⟩ := hY k0 B0
    rw [y1, y2, y3, y4]
    have Y := Lib.hid (hY k b)
    clear y1 y2 y3 y4 hY
    go_wp2_with fail
    refine (gDecide k A0 b now most v hA hbU hn hm hv _).mono ?_
    rintro e2 w2 ⟨rfl, hb2⟩
    rw [Y.out.1, Y.out.2.1, Y.out.2.2.1, Y.out.2.2.2]
    have z2 : w1.heap.size < w2.heap.size := by have := hb2.size; simp at this; omega
    have z3 : w.heap.size < w2.heap.size := by omega
    have z4 : w.heap.size + 1 < w2.heap.size := by omega
    have s'0 := hb2.past.reads s0
    have s'1 := hb2.past.reads s1
    have s'2 := hb2.past.reads s2
    have t'0 := hb2.past.reads t0
    have t'1 := hb2.past.reads t1
    have t'2 := hb2.past.reads t2
    have a0 : w2.cell? ⟨w1.heap.size, 0, none⟩ = some (.int .u8 k0) := hb2.reads (by go_simp)
    have a1 : w2.cell? ⟨w1.heap.size, 1, none⟩ = some (.int .u64 A0) := hb2.reads (by go_simp)
    have a2 : w2.cell? ⟨w1.heap.size, 2, none⟩ = some (.int .u64 B0) := hb2.reads (by go_simp)
    go_wp2_with fail
    go_region_held3 (fun w' => w'.cell? ⟨w.heap.size, 0, none⟩ = some (.int .u8 k0) ∧ w'.cell? ⟨w.heap.size, 1, none⟩ = some (.int .u64 A0) ∧ w'.cell? ⟨w.heap.size, 2, none⟩ = some (.int .u64 B0) ∧ w'.cell? ⟨w.heap.size + 1, 0, none⟩ = some (.int .u8 k) ∧ w'.cell? ⟨w.heap.size + 1, 1, none⟩ = some (.int .u64 A0) ∧ w'.cell? ⟨w.heap.size + 1, 2, none⟩ = some (.int .u64 b) ∧ w'.cell? ⟨w1.heap.size, 0, none⟩ = some (.int .u8 k0) ∧ w'.cell? ⟨w1.heap.size, 1, none⟩ = some (.int .u64 A0) ∧ w'.cell? ⟨w1.heap.size, 2, none⟩ = some (.int .u64 B0) ∧ w'.cell? ⟨w2.heap.size, 0, none⟩ = some (.int .u8 k) ∧ w'.cell? ⟨w2.heap.size, 1, none⟩ = some (.int .u64 A0) ∧ w'.cell? ⟨w2.heap.size, 2, none⟩ = some (.int .u64 b))
      (first
        | go_keep
        | (go_split_ands
           refine ⟨hb.reads ?_, hb.reads ?_, hb.reads ?_, hb.reads ?_, hb.reads ?_, hb.reads ?_, hb.reads ?_, hb.reads ?_, hb.reads ?_, hb.reads ?_, hb.reads ?_, hb.reads ?_⟩ <;> assumption))
      (first
        | (go_at_call 35; refine (gFill _ A0 _ now most hA (by assumption) hn _).mono ?_; rintro e w3 ⟨rfl, hb⟩; rw [HF.out]))
    rename_i hH
    obtain ⟨a1, a2, a3, b1, b2, b3, c1, c2, c3, d1, d2, d3⟩ := hH
    go_wp2_with fail
    refine (gKnown _).mono ?_
    rintro e4 w4 ⟨rfl, hb4⟩
    have a1' := hb4.reads a1
    have a2' := hb4.reads a2
    have a3' := hb4.reads a3
    have b1' := hb4.reads b1
    have b2' := hb4.reads b2
    have b3' := hb4.reads b3
    have c1' := hb4.reads c1
    have c2' := hb4.reads c2
    have c3' := hb4.reads c3
    have d1' := hb4.reads d1
    have d2' := hb4.reads d2
    have d3' := hb4.reads d3
    go_wp2
    go_ret
    exact ⟨rfl, by repeat (first | exact Ext.refl _ | assumption | apply Ext.drew | apply Ext.alloc | (refine Ext.setCell ?_ (by simp <;> omega) _) | refine Ext.trans ?_ (by assumption))⟩

end Go.Proofs.Ytegmpcjibngboaa
