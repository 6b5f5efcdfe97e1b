/- Contracts of the layer bucket, and of its reference. -/
import Derived.Test.YtfabgfenelaheaaNum
import Derived.RegionTactic
import Derived.Deep.RegionHeld3
import Derived.Deep.QuietTactic
import Derived.BigQuiet
set_option linter.unusedVariables false
namespace Go.Proofs.Ytfabgfenelaheaa
open Go.RowKit

theorem bOf (now cap fill : Int) (hn : U now) (hc : U cap) (hf : U fill) (w : World) :
    Calls Try.prog 73 #[.int .u64 now, .int .u64 cap, .int .u64 fill] w fun e w' =>
      e = .returned (.agg #[.int .u8 2, .int .u64 (usub cap fill), .int .u64 now]) ∧ Ext w w' := by
  go_enter Try.func73, Try.ntmps73
  go_wp2_with (go_at_call 49; refine (nSub _ _ (by assumption) (by assumption) _).mono ?_; rintro e w' ⟨rfl, rfl⟩)
  exact bodyPost_ret (v := .agg #[.int .u8 2, .int .u64 (usub cap fill), .int .u64 now]) (by simp [results, Try.results73, go_sem]) rfl ⟨rfl, by repeat (first | exact Ext.refl _ | assumption | apply Ext.drew | apply Ext.alloc | (refine Ext.setCell ?_ (by simp <;> omega) _) | refine Ext.trans ?_ (by assumption))⟩

theorem bFillL (cap k A B now : Int) (hA : U A) (hB : U B) (hn : U now) (hc : U cap) (w : World) (pc : Addr) (hp : w.cell? pc = some (.int .u64 cap)) :
    Calls Try.prog 94 #[.agg #[.int .u8 k, .int .u64 A, .int .u64 B], .int .u64 now, .pointer (some pc)] w fun e w' =>
      e = .returned (.int .u64 (tok A B now cap)) ∧ Ext w w' := by
  have hnew := World.new_ne w pc hp
  have hu := usub_U hn hB
  go_enter Try.func94, Try.ntmps94
  go_wp2
  go_region_held3 (fun w' => w'.cell? pc = some (.int .u64 cap) ∧ w'.cell? ⟨w.heap.size, 1, none⟩ = some (.int .u64 A) ∧ w'.cell? ⟨w.heap.size, 2, none⟩ = some (.int .u64 B)) (go_keep)
    (first
      | (go_at_call 49; refine (nSub _ _ hn hB _).mono ?_; rintro e w' ⟨rfl, rfl⟩)
      | (go_at_call 55; refine (nAdd2 _ _ _ _ hA hu _ ?_ ?_).mono ?_; (go_simp); (go_simp); rintro e w' ⟨rfl, rfl⟩))
  all_goals go_wp2
  all_goals go_ret
  all_goals exact ⟨ret_u64 (by unfold tok; omega), by repeat (first | exact Ext.refl _ | assumption | apply Ext.drew | apply Ext.alloc | (refine Ext.setCell ?_ (by simp <;> omega) _) | refine Ext.trans ?_ (by assumption))⟩

theorem bFilled (cap : Int) (w : World) :
    Calls Try.prog 91 #[.int .u64 cap] w fun e w' => e = .returned (.func (.func 94) #[] #[.pointer (some ⟨w.heap.size, 0, none⟩)]) ∧ w.alloc (.cells #[.int .u64 cap] 23) = w' := by
  go_enter Try.func91, Try.ntmps91
  go_wp2
  go_ret
  exact ⟨rfl, rfl⟩

theorem bFill (k A B now cap : Int) (hA : U A) (hB : U B) (hn : U now) (hc : U cap) (w : World) :
    Calls Try.prog 74 #[.agg #[.int .u8 k, .int .u64 A, .int .u64 B], .int .u64 now, .int .u64 cap] w fun e w' =>
      e = .returned (.int .u64 (bfill A B now cap)) ∧ Ext w w' := by
  have ht := tok_U hA hB hn hc
  have htl := tok_le A B now cap
  obtain ⟨hc1, hc2⟩ := hc
  obtain ⟨ht1, ht2⟩ := ht
  go_enter Try.func74, Try.ntmps74
  go_wp2
  go_region_held3 (fun w' => w'.cell? ⟨w.heap.size, 0, none⟩ = some (.int .u8 k) ∧ w'.cell? ⟨w.heap.size, 1, none⟩ = some (.int .u64 A) ∧ w'.cell? ⟨w.heap.size, 2, none⟩ = some (.int .u64 B))
    (first
      | go_keep
      | (go_split_ands
         refine ⟨?_, ?_, ?_⟩
         · (refine hb.reads ?_; go_simp)
         · (refine hb.reads ?_; go_simp)
         · (refine hb.reads ?_; go_simp)))
    (first
      | (go_at_call 91; refine (bFilled _ _).mono ?_; rintro e w' ⟨rfl, rfl⟩)
      | (go_at_call 94; refine (bFillL cap k A B now hA hB hn ⟨hc1, hc2⟩ _ _ ?_).mono ?_; (go_simp); rintro e w1 ⟨rfl, hb⟩))
  go_wp2
  go_ret
  rw [IntWalk.u64_in _ (by omega)]
  exact ⟨rfl, by repeat (first | exact Ext.refl _ | assumption | apply Ext.drew | apply Ext.alloc | (refine Ext.setCell ?_ (by simp <;> omega) _) | refine Ext.trans ?_ (by assumption))⟩

set_option maxHeartbeats 400000 in
theorem bDecide (k A B now cap v : Int) (hA : U A) (hB : U B) (hn : U now) (hc : U cap) (hv : U v) (w : World) :
    Calls Try.prog 75 #[.agg #[.int .u8 k, .int .u64 A, .int .u64 B], .int .u64 now, .int .u64 cap, .int .u64 v] w fun e w' =>
      e = .returned (.tuple #[.agg #[.int .u8 (bK k A B now cap v), .int .u64 (bA A B now cap v), .int .u64 (bB A B now cap v)], .bool (bok A B now cap v)]) ∧ Ext w w' := by
  have ht := tok_U hA hB hn hc
  have htl := tok_le A B now cap
  obtain ⟨hc1, hc2⟩ := hc
  obtain ⟨ht1, ht2⟩ := ht
  obtain ⟨hv1, hv2⟩ := hv
  go_enter Try.func75, Try.ntmps75
  go_wp2
  go_region_held3 (fun w' => w'.cell? ⟨w.heap.size, 0, none⟩ = some (.int .u8 k) ∧ w'.cell? ⟨w.heap.size, 1, none⟩ = some (.int .u64 A) ∧ w'.cell? ⟨w.heap.size, 2, none⟩ = some (.int .u64 B))
    (first
      | go_keep
      | (go_split_ands
         refine ⟨?_, ?_, ?_⟩
         · (refine hb.reads ?_; go_simp)
         · (refine hb.reads ?_; go_simp)
         · (refine hb.reads ?_; go_simp)))
    (first
      | (go_at_call 91; refine (bFilled _ _).mono ?_; rintro e w' ⟨rfl, rfl⟩)
      | (go_at_call 94; refine (bFillL cap k A B now hA hB hn ⟨hc1, hc2⟩ _ _ ?_).mono ?_; (go_simp); rintro e w1 ⟨rfl, hb⟩))
  have c0 : w1.cell? ⟨w.heap.size + 1, 0, none⟩ = some (.int .u8 0) := hb.reads (by go_simp)
  have c1 : w1.cell? ⟨w.heap.size + 1, 1, none⟩ = some (.int .u64 0) := hb.reads (by go_simp)
  have c2 : w1.cell? ⟨w.heap.size + 1, 2, none⟩ = some (.int .u64 0) := hb.reads (by go_simp)
  have f0 : w1.frozen? ⟨w.heap.size + 1, 0, none⟩ = false := hb.free (v := .int .u8 0) (by go_simp) (by go_simp)
  have f1 : w1.frozen? ⟨w.heap.size + 1, 1, none⟩ = false := hb.free (v := .int .u64 0) (by go_simp) (by go_simp)
  have f2 : w1.frozen? ⟨w.heap.size + 1, 2, none⟩ = false := hb.free (v := .int .u64 0) (by go_simp) (by go_simp)
  by_cases hle : v ≤ tok A B now cap
  · go_wp2
    exact bodyPost_ret (v := .tuple #[.agg #[.int .u8 2, .int .u64 (tok A B now cap - v), .int .u64 now], .bool true]) (by simp [results, Try.results75, go_sem, c0, c1, c2]) rfl
      ⟨by simp only [bK, bA, bB, bok, if_pos hle, decide_eq_true hle], by repeat (first | exact Ext.refl _ | assumption | apply Ext.drew | apply Ext.alloc | (refine Ext.setCell ?_ (by simp <;> omega) _) | refine Ext.trans ?_ (by assumption))⟩
  · go_wp2
    exact bodyPost_ret (v := .tuple #[.agg #[.int .u8 k, .int .u64 A, .int .u64 B], .bool false]) (by simp [results, Try.results75, go_sem, c0, c1, c2]) rfl
      ⟨by simp only [bK, bA, bB, bok, if_neg (Int.not_le.2 hle), decide_eq_false (Int.not_le.2 hle)], by repeat (first | exact Ext.refl _ | assumption | apply Ext.drew | apply Ext.alloc | (refine Ext.setCell ?_ (by simp <;> omega) _) | refine Ext.trans ?_ (by assumption))⟩

theorem rTok (k A B now cap : Int) (hA : U A) (hB : U B) (hn : U now) (hc : U cap) (w : World) :
    Calls Try.prog 93 #[.agg #[.int .u8 k, .int .u64 A, .int .u64 B], .int .u64 now, .int .u64 cap] w fun e w' =>
      e = .returned (.int .u64 (tok A B now cap)) ∧ Ext w w' := by
  have hu := usub_U hn hB
  go_enter Try.func93, Try.ntmps93
  go_wp2
  go_region_held3 (fun w' => w'.cell? ⟨w.heap.size, 0, none⟩ = some (.int .u8 k) ∧ w'.cell? ⟨w.heap.size, 1, none⟩ = some (.int .u64 A) ∧ w'.cell? ⟨w.heap.size, 2, none⟩ = some (.int .u64 B)) (first
      | go_keep
      | (go_split_ands
         refine ⟨?_, ?_, ?_⟩
         · (refine hb.reads ?_; go_simp)
         · (refine hb.reads ?_; go_simp)
         · (refine hb.reads ?_; go_simp)))
    (first
      | (go_at_call 27; refine (rSub _ _ hn hB _).mono ?_; rintro e w' ⟨rfl, rfl⟩)
      | (go_at_call 53; refine (rAdd _ _ hA hu _).mono ?_; rintro e w' ⟨rfl, rfl⟩))
  all_goals go_wp2
  all_goals go_ret
  all_goals exact ⟨ret_u64 (by unfold tok; omega), by repeat (first | exact Ext.refl _ | assumption | apply Ext.drew | apply Ext.alloc | (refine Ext.setCell ?_ (by simp <;> omega) _) | refine Ext.trans ?_ (by assumption))⟩

theorem r5Fill (k A B now cap : Int) (hA : U A) (hB : U B) (hn : U now) (hc : U cap) (w : World) :
    Calls Try.prog 88 #[.agg #[.int .u8 k, .int .u64 A, .int .u64 B], .int .u64 now, .int .u64 cap] w fun e w' =>
      e = .returned (.int .u64 (bfill A B now cap)) ∧ Ext w w' := by
  have ht := tok_U hA hB hn hc
  have htl := tok_le A B now cap
  obtain ⟨hc1, hc2⟩ := hc
  obtain ⟨ht1, ht2⟩ := ht
  go_enter Try.func88, Try.ntmps88
  go_wp2_with (go_at_call 93; refine (rTok k A B now cap hA hB hn ⟨hc1, hc2⟩ _).mono ?_; rintro e w1 ⟨rfl, hb⟩)
  go_ret
  exact ⟨rfl, by repeat (first | exact Ext.refl _ | assumption | apply Ext.drew | apply Ext.alloc | (refine Ext.setCell ?_ (by simp <;> omega) _) | refine Ext.trans ?_ (by assumption))⟩

theorem r5Of (now cap fill : Int) (hn : U now) (hc : U cap) (hf : U fill) (w : World) :
    Calls Try.prog 86 #[.int .u64 now, .int .u64 cap, .int .u64 fill] w fun e w' =>
      e = .returned (.agg #[.int .u8 2, .int .u64 (usub cap fill), .int .u64 now]) ∧ Ext w w' := by
  go_enter Try.func86, Try.ntmps86
  go_wp2_with (go_at_call 27; refine (rSub _ _ (by assumption) (by assumption) _).mono ?_; rintro e w' ⟨rfl, rfl⟩)
  exact bodyPost_ret (v := .agg #[.int .u8 2, .int .u64 (usub cap fill), .int .u64 now]) (by simp [results, Try.results86, go_sem]) rfl ⟨rfl, by repeat (first | exact Ext.refl _ | assumption | apply Ext.drew | apply Ext.alloc | (refine Ext.setCell ?_ (by simp <;> omega) _) | refine Ext.trans ?_ (by assumption))⟩

set_option maxHeartbeats 400000 in
theorem r5Decide (k A B now cap v : Int) (hA : U A) (hB : U B) (hn : U now) (hc : U cap) (hv : U v) (w : World) :
    Calls Try.prog 84 #[.agg #[.int .u8 k, .int .u64 A, .int .u64 B], .int .u64 now, .int .u64 cap, .int .u64 v] w fun e w' =>
      e = .returned (.tuple #[.agg #[.int .u8 (bK k A B now cap v), .int .u64 (bA A B now cap v), .int .u64 (bB A B now cap v)], .bool (bok A B now cap v)]) ∧ Ext w w' := by
  have ht := tok_U hA hB hn hc
  have htl := tok_le A B now cap
  obtain ⟨hc1, hc2⟩ := hc
  obtain ⟨ht1, ht2⟩ := ht
  obtain ⟨hv1, hv2⟩ := hv
  go_enter Try.func84, Try.ntmps84
  go_wp2_with fail
  refine (rTok k A B now cap hA hB hn ⟨hc1, hc2⟩ _).mono ?_
  rintro e w1 ⟨rfl, hb⟩
  have s0 : w1.cell? ⟨w.heap.size, 0, none⟩ = some (.int .u8 k) := hb.reads (by go_simp)
  have s1 : w1.cell? ⟨w.heap.size, 1, none⟩ = some (.int .u64 A) := hb.reads (by go_simp)
  have s2 : w1.cell? ⟨w.heap.size, 2, none⟩ = some (.int .u64 B) := hb.reads (by go_simp)
  have c0 : w1.cell? ⟨w.heap.size + 1, 0, none⟩ = some (.int .u8 0) := hb.reads (by go_simp)
  have c1 : w1.cell? ⟨w.heap.size + 1, 1, none⟩ = some (.int .u64 0) := hb.reads (by go_simp)
  have c2 : w1.cell? ⟨w.heap.size + 1, 2, none⟩ = some (.int .u64 0) := hb.reads (by go_simp)
  have f0 : w1.frozen? ⟨w.heap.size + 1, 0, none⟩ = false := hb.free (v := .int .u8 0) (by go_simp) (by go_simp)
  have f1 : w1.frozen? ⟨w.heap.size + 1, 1, none⟩ = false := hb.free (v := .int .u64 0) (by go_simp) (by go_simp)
  have f2 : w1.frozen? ⟨w.heap.size + 1, 2, none⟩ = false := hb.free (v := .int .u64 0) (by go_simp) (by go_simp)
  by_cases hle : v ≤ tok A B now cap
  · go_wp2
    exact bodyPost_ret (v := .tuple #[.agg #[.int .u8 2, .int .u64 (tok A B now cap - v), .int .u64 now], .bool true]) (by simp [results, Try.results84, go_sem, c0, c1, c2]) rfl
      ⟨by simp only [bK, bA, bB, bok, if_pos hle, decide_eq_true hle], by repeat (first | exact Ext.refl _ | assumption | apply Ext.drew | apply Ext.alloc | (refine Ext.setCell ?_ (by simp <;> omega) _) | refine Ext.trans ?_ (by assumption))⟩
  · go_wp2
    exact bodyPost_ret (v := .tuple #[.agg #[.int .u8 k, .int .u64 A, .int .u64 B], .bool false]) (by simp [results, Try.results84, go_sem, c0, c1, c2]) rfl
      ⟨by simp only [bK, bA, bB, bok, if_neg (Int.not_le.2 hle), decide_eq_false (Int.not_le.2 hle)], by repeat (first | exact Ext.refl _ | assumption | apply Ext.drew | apply Ext.alloc | (refine Ext.setCell ?_ (by simp <;> omega) _) | refine Ext.trans ?_ (by assumption))⟩

end Go.Proofs.Ytfabgfenelaheaa
