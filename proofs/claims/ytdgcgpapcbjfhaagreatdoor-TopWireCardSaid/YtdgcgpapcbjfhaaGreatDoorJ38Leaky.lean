/- Contracts of the layer leaky, and of its reference. -/
import Derived.Test.YtdgcgpapcbjfhaaGreatDoorJ02Bucket
import Derived.Test.YtdgcgpapcbjfhaaGreatDoorJ01SpecK
import Derived.RegionTactic
import Derived.Deep.RegionHeld3
import Derived.Deep.QuietTactic
import Derived.BigQuiet
set_option linter.unusedVariables false
set_option linter.unusedSimpArgs false

/- Contracts of the layer leaky, and of its reference. -/
namespace Go.Proofs.YtdgcgpapcbjfhaaGreatDoor
open Go.RowKit

theorem lOf (now cap fill : Int) (w : World) :
    Calls Tryz.prog 203 #[.int .u64 now, .int .u64 cap, .int .u64 fill] w fun e w' =>
      e = .returned (.agg #[.int .u8 3, .int .u64 fill, .int .u64 now]) ∧ Ext w w' := by
  go_enter Tryz.func203, Tryz.ntmps203
  go_wp2
  exact bodyPost_ret (v := .agg #[.int .u8 3, .int .u64 fill, .int .u64 now]) (by simp [results, Tryz.results203, go_sem]) rfl ⟨rfl, by repeat (first | exact Ext.refl _ | assumption | apply Ext.drew | apply Ext.alloc | (refine Ext.setCell ?_ (by simp <;> omega) _) | refine Ext.trans ?_ (by assumption))⟩

theorem lLeft (k A B now : Int) (hA : U A) (hB : U B) (hn : U now) (w : World) :
    Calls Tryz.prog 219 #[.agg #[.int .u8 k, .int .u64 A, .int .u64 B], .int .u64 now] w fun e w' =>
      e = .returned (.int .u64 (lfill A B now)) ∧ Ext w w' := by
  have hu := usub_U hn hB
  go_enter Tryz.func219, Tryz.ntmps219
  go_wp2
  go_region_held3 (fun w' => w'.cell? ⟨w.heap.size, 0, none⟩ = some (.int .u8 k) ∧ w'.cell? ⟨w.heap.size, 1, none⟩ = some (.int .u64 A) ∧ w'.cell? ⟨w.heap.size, 2, none⟩ = some (.int .u64 B))
    (first
      | go_keep
      | (go_split_ands
         refine ⟨hb.reads ?_, hb.reads ?_, hb.reads ?_⟩ <;> assumption)
      | (refine ⟨?_, ?_, ?_⟩ <;> (go_simp; done)))
    (first
      | (go_at_call_of 167 (Value.int .u64 now); refine (nSub _ _ hn hB _).mono ?_; rintro e w' ⟨rfl, rfl⟩)
      | (go_at_call 167; refine (nSub _ _ hA hu _).mono ?_; rintro e w' ⟨rfl, rfl⟩))
  go_wp2
  go_ret
  exact ⟨rfl, by repeat (first | exact Ext.refl _ | assumption | apply Ext.drew | apply Ext.alloc | (refine Ext.setCell ?_ (by simp <;> omega) _) | refine Ext.trans ?_ (by assumption))⟩

theorem lFill (k A B now cap : Int) (hA : U A) (hB : U B) (hn : U now) (w : World) :
    Calls Tryz.prog 204 #[.agg #[.int .u8 k, .int .u64 A, .int .u64 B], .int .u64 now, .int .u64 cap] w fun e w' =>
      e = .returned (.int .u64 (lfill A B now)) ∧ Ext w w' := by
  go_enter Tryz.func204, Tryz.ntmps204
  go_wp2_with fail
  refine (lLeft k A B now hA hB hn _).mono ?_
  rintro e w1 ⟨rfl, hb⟩
  go_wp2
  go_ret
  exact ⟨rfl, by repeat (first | exact Ext.refl _ | assumption | apply Ext.drew | apply Ext.alloc | (refine Ext.setCell ?_ (by simp <;> omega) _) | refine Ext.trans ?_ (by assumption))⟩

set_option maxHeartbeats 400000 in
theorem lDecide (k A B now cap v : Int) (hA : U A) (hB : U B) (hn : U now) (hc : U cap) (hv : U v) (w : World) :
    Calls Tryz.prog 205 #[.agg #[.int .u8 k, .int .u64 A, .int .u64 B], .int .u64 now, .int .u64 cap, .int .u64 v] w fun e w' =>
      e = .returned (.tuple #[.agg #[.int .u8 (lK k A B now cap v), .int .u64 (lA A B now cap v), .int .u64 (lB A B now cap v)], .bool (lok A B now cap v)]) ∧ Ext w w' := by
  have hF := lfill_U hA hB hn
  obtain ⟨hv1, hv2⟩ := hv
  obtain ⟨hc1, hc2⟩ := hc
  by_cases hle : lfill A B now + v ≤ cap
  · have hfit : fits (lfill A B now) v cap = true := decide_eq_true hle
    have e1 : lK k A B now cap v = 3 := if_pos hle
    have e2 : lA A B now cap v = lfill A B now + v := if_pos hle
    have e3 : lB A B now cap v = now := if_pos hle
    have e4 : lok A B now cap v = true := hfit
    rw [e1, e2, e3, e4]
    have HFT := Lib.hid hfit
    clear e1 e2 e3 e4 hfit
    obtain ⟨F, eF⟩ : ∃ F, lfill A B now = F := ⟨_, rfl⟩
    rw [eF] at hF HFT hle ⊢
    have HF := Lib.hid eF
    clear eF
    obtain ⟨hF1, hF2⟩ := hF
    go_enter Tryz.func205, Tryz.ntmps205
    go_wp2_with fail
    refine (lFill k A B now cap hA hB hn _).mono ?_
    rintro e w1 ⟨rfl, hb⟩
    rw [HF.out]
    have c0 : w1.cell? ⟨w.heap.size + 1, 0, none⟩ = some (.int .u8 0) := hb.reads (by go_simp)
    have c1 : w1.cell? ⟨w.heap.size + 1, 1, none⟩ = some (.int .u64 0) := hb.reads (by go_simp)
    have c2 : w1.cell? ⟨w.heap.size + 1, 2, none⟩ = some (.int .u64 0) := hb.reads (by go_simp)
    have f0 : w1.frozen? ⟨w.heap.size + 1, 0, none⟩ = false := hb.free (v := .int .u8 0) (by go_simp) (by go_simp)
    have f1 : w1.frozen? ⟨w.heap.size + 1, 1, none⟩ = false := hb.free (v := .int .u64 0) (by go_simp) (by go_simp)
    have f2 : w1.frozen? ⟨w.heap.size + 1, 2, none⟩ = false := hb.free (v := .int .u64 0) (by go_simp) (by go_simp)
    go_wp2_with fail
    refine (nFits F v cap ⟨hF1, hF2⟩ ⟨hv1, hv2⟩ ⟨hc1, hc2⟩ _).mono ?_
    rintro e w2 ⟨rfl, rfl⟩
    rw [HFT.out]
    go_wp2_with fail
    refine (lOf now cap (F + v) _).mono ?_
    rintro e w2 ⟨rfl, hb2⟩
    have c0' := hb2.reads c0
    have c1' := hb2.reads c1
    have c2' := hb2.reads c2
    have f0' := hb2.free c0 f0
    have f1' := hb2.free c1 f1
    have f2' := hb2.free c2 f2
    go_wp2
    exact bodyPost_ret (v := .tuple #[.agg #[.int .u8 3, .int .u64 (F + v), .int .u64 now], .bool true]) (by simp [results, Tryz.results205, go_sem, c0', c1', c2']) rfl ⟨rfl, by repeat (first | exact Ext.refl _ | assumption | apply Ext.drew | apply Ext.alloc | (refine Ext.setCell ?_ (by simp <;> omega) _) | refine Ext.trans ?_ (by assumption))⟩
  · have hfit : fits (lfill A B now) v cap = false := decide_eq_false hle
    have e1 : lK k A B now cap v = k := if_neg hle
    have e2 : lA A B now cap v = A := if_neg hle
    have e3 : lB A B now cap v = B := if_neg hle
    have e4 : lok A B now cap v = false := hfit
    rw [e1, e2, e3, e4]
    have HFT := Lib.hid hfit
    clear e1 e2 e3 e4 hfit
    go_enter Tryz.func205, Tryz.ntmps205
    go_wp2_with fail
    refine (lFill k A B now cap hA hB hn _).mono ?_
    rintro e w1 ⟨rfl, hb⟩
    have c0 : w1.cell? ⟨w.heap.size + 1, 0, none⟩ = some (.int .u8 0) := hb.reads (by go_simp)
    have c1 : w1.cell? ⟨w.heap.size + 1, 1, none⟩ = some (.int .u64 0) := hb.reads (by go_simp)
    have c2 : w1.cell? ⟨w.heap.size + 1, 2, none⟩ = some (.int .u64 0) := hb.reads (by go_simp)
    have f0 : w1.frozen? ⟨w.heap.size + 1, 0, none⟩ = false := hb.free (v := .int .u8 0) (by go_simp) (by go_simp)
    have f1 : w1.frozen? ⟨w.heap.size + 1, 1, none⟩ = false := hb.free (v := .int .u64 0) (by go_simp) (by go_simp)
    have f2 : w1.frozen? ⟨w.heap.size + 1, 2, none⟩ = false := hb.free (v := .int .u64 0) (by go_simp) (by go_simp)
    have s0 : w1.cell? ⟨w.heap.size, 0, none⟩ = some (.int .u8 k) := hb.reads (by go_simp)
    have s1 : w1.cell? ⟨w.heap.size, 1, none⟩ = some (.int .u64 A) := hb.reads (by go_simp)
    have s2 : w1.cell? ⟨w.heap.size, 2, none⟩ = some (.int .u64 B) := hb.reads (by go_simp)
    go_wp2_with fail
    refine (nFits (lfill A B now) v cap hF ⟨hv1, hv2⟩ ⟨hc1, hc2⟩ _).mono ?_
    rintro e w2 ⟨rfl, rfl⟩
    rw [HFT.out]
    go_wp2
    exact bodyPost_ret (v := .tuple #[.agg #[.int .u8 k, .int .u64 A, .int .u64 B], .bool false]) (by simp [results, Tryz.results205, go_sem, c0, c1, c2]) rfl ⟨rfl, by repeat (first | exact Ext.refl _ | assumption | apply Ext.drew | apply Ext.alloc | (refine Ext.setCell ?_ (by simp <;> omega) _) | refine Ext.trans ?_ (by assumption))⟩

theorem lOf' (now cap fill : Int) (hn : U now) (hc : U cap) (hf : U fill) (w : World) :
    Calls Tryz.prog 203 #[.int .u64 now, .int .u64 cap, .int .u64 fill] w fun e w' => e = .returned (.agg #[.int .u8 3, .int .u64 fill, .int .u64 now]) ∧ Ext w w' := lOf now cap fill w

theorem lFill' (k A B now cap : Int) (hA : U A) (hB : U B) (hn : U now) (hc : U cap) (w : World) :
    Calls Tryz.prog 204 #[.agg #[.int .u8 k, .int .u64 A, .int .u64 B], .int .u64 now, .int .u64 cap] w fun e w' => e = .returned (.int .u64 (lfil A B now cap)) ∧ Ext w w' := lFill k A B now cap hA hB hn w

end Go.Proofs.YtdgcgpapcbjfhaaGreatDoor
