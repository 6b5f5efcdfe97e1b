/- Contracts of the layer kernel: Fill, Decide. -/
import Derived.Test.YtfabgfenelaheaaKernel
import Derived.RegionTactic
import Derived.Deep.RegionHeld3
set_option linter.unusedVariables false
namespace Go.Proofs.Ytfabgfenelaheaa
open Go.RowKit

attribute [local go_sem] ite_min ite_max

set_option maxRecDepth 20000 in
theorem kFill1 (A B now cap : Int) (hA : U A) (hB : U B) (hn : U now) (hc : U cap) (w : World) :
    Calls Try.prog 32 #[.agg #[.int .u8 1, .int .u64 A, .int .u64 B], .int .u64 now, .int .u64 cap] w fun e w' =>
      e = .returned (.int .u64 (fil 1 A B now cap)) ∧ Ext w w' := by
  go_enter Try.func32, Try.ntmps32
  go_wp2
  go_region_held3 (fun w' => w'.cell? ⟨w.heap.size, 0, none⟩ = some (.int .u8 1) ∧ w'.cell? ⟨w.heap.size, 1, none⟩ = some (.int .u64 A) ∧ w'.cell? ⟨w.heap.size, 2, none⟩ = some (.int .u64 B))
    (first
      | go_keep
      | (go_split_ands
         refine ⟨hb.reads ?_, hb.reads ?_, hb.reads ?_⟩ <;> assumption)
      | (refine ⟨?_, ?_, ?_⟩ <;> (go_simp; done)))
      (first
      | (go_at_call 54; refine (kAll1 _).mono ?_; rintro e w1 ⟨b, rfl, hb, g1, g2⟩
         have s0 : w1.cell? ⟨w.heap.size, 0, none⟩ = some (.int .u8 1) := hb.reads (by go_simp)
         have s1 : w1.cell? ⟨w.heap.size, 1, none⟩ = some (.int .u64 A) := hb.reads (by go_simp)
         have s2 : w1.cell? ⟨w.heap.size, 2, none⟩ = some (.int .u64 B) := hb.reads (by go_simp)
         have hb0 : Ext ((w.alloc (.cells #[.int .u8 1, .int .u64 A, .int .u64 B] 34)).alloc (.cells #[.nilFunc, .nilFunc, .nilFunc] 83)).drew w1 := hb
         have n0 : w1.cell? ⟨w.heap.size + 1, 0, none⟩ = some .nilFunc := hb.reads (by go_simp)
         have n1 : w1.cell? ⟨w.heap.size + 1, 1, none⟩ = some .nilFunc := hb.reads (by go_simp)
         have n2 : w1.cell? ⟨w.heap.size + 1, 2, none⟩ = some .nilFunc := hb.reads (by go_simp)
         have f0 : w1.frozen? ⟨w.heap.size + 1, 0, none⟩ = false := hb.free (v := .nilFunc) (by go_simp) (by go_simp)
         have f1 : w1.frozen? ⟨w.heap.size + 1, 1, none⟩ = false := hb.free (v := .nilFunc) (by go_simp) (by go_simp)
         have f2 : w1.frozen? ⟨w.heap.size + 1, 2, none⟩ = false := hb.free (v := .nilFunc) (by go_simp) (by go_simp)
        )
      | (go_at_call 54; refine (kAll1 _).mono ?_; rintro e w1 ⟨b, rfl, hb, g1, g2⟩
         have s0 : w1.cell? ⟨w.heap.size, 0, none⟩ = some (.int .u8 1) := hb.reads (by go_simp)
         have s1 : w1.cell? ⟨w.heap.size, 1, none⟩ = some (.int .u64 A) := hb.reads (by go_simp)
         have s2 : w1.cell? ⟨w.heap.size, 2, none⟩ = some (.int .u64 B) := hb.reads (by go_simp)
        ))
  all_goals
    go_wp2_with fail
    refine (gFill' 1 A B now cap hA hB hn hc _).mono ?_
    rintro e w2 ⟨rfl, hb2⟩
    go_wp2
    go_ret
    exact ⟨rfl, by repeat (first | exact Ext.refl _ | assumption | apply Ext.drew | apply Ext.alloc | (refine Ext.setCell ?_ (by simp <;> omega) _) | refine Ext.trans ?_ (by assumption))⟩

set_option maxRecDepth 20000 in
theorem kFill2 (A B now cap : Int) (hA : U A) (hB : U B) (hn : U now) (hc : U cap) (w : World) :
    Calls Try.prog 32 #[.agg #[.int .u8 2, .int .u64 A, .int .u64 B], .int .u64 now, .int .u64 cap] w fun e w' =>
      e = .returned (.int .u64 (fil 2 A B now cap)) ∧ Ext w w' := by
  go_enter Try.func32, Try.ntmps32
  go_wp2
  go_region_held3 (fun w' => w'.cell? ⟨w.heap.size, 0, none⟩ = some (.int .u8 2) ∧ w'.cell? ⟨w.heap.size, 1, none⟩ = some (.int .u64 A) ∧ w'.cell? ⟨w.heap.size, 2, none⟩ = some (.int .u64 B))
    (first
      | go_keep
      | (go_split_ands
         refine ⟨hb.reads ?_, hb.reads ?_, hb.reads ?_⟩ <;> assumption)
      | (refine ⟨?_, ?_, ?_⟩ <;> (go_simp; done)))
      (first
      | (go_at_call 54; refine (kAll2 _).mono ?_; rintro e w1 ⟨b, rfl, hb, g1, g2⟩
         have s0 : w1.cell? ⟨w.heap.size, 0, none⟩ = some (.int .u8 2) := hb.reads (by go_simp)
         have s1 : w1.cell? ⟨w.heap.size, 1, none⟩ = some (.int .u64 A) := hb.reads (by go_simp)
         have s2 : w1.cell? ⟨w.heap.size, 2, none⟩ = some (.int .u64 B) := hb.reads (by go_simp)
         have hb0 : Ext ((w.alloc (.cells #[.int .u8 2, .int .u64 A, .int .u64 B] 34)).alloc (.cells #[.nilFunc, .nilFunc, .nilFunc] 83)).drew w1 := hb
         have n0 : w1.cell? ⟨w.heap.size + 1, 0, none⟩ = some .nilFunc := hb.reads (by go_simp)
         have n1 : w1.cell? ⟨w.heap.size + 1, 1, none⟩ = some .nilFunc := hb.reads (by go_simp)
         have n2 : w1.cell? ⟨w.heap.size + 1, 2, none⟩ = some .nilFunc := hb.reads (by go_simp)
         have f0 : w1.frozen? ⟨w.heap.size + 1, 0, none⟩ = false := hb.free (v := .nilFunc) (by go_simp) (by go_simp)
         have f1 : w1.frozen? ⟨w.heap.size + 1, 1, none⟩ = false := hb.free (v := .nilFunc) (by go_simp) (by go_simp)
         have f2 : w1.frozen? ⟨w.heap.size + 1, 2, none⟩ = false := hb.free (v := .nilFunc) (by go_simp) (by go_simp)
        )
      | (go_at_call 54; refine (kAll2 _).mono ?_; rintro e w1 ⟨b, rfl, hb, g1, g2⟩
         have s0 : w1.cell? ⟨w.heap.size, 0, none⟩ = some (.int .u8 2) := hb.reads (by go_simp)
         have s1 : w1.cell? ⟨w.heap.size, 1, none⟩ = some (.int .u64 A) := hb.reads (by go_simp)
         have s2 : w1.cell? ⟨w.heap.size, 2, none⟩ = some (.int .u64 B) := hb.reads (by go_simp)
        ))
  all_goals
    go_wp2_with fail
    refine (bFill 2 A B now cap hA hB hn hc _).mono ?_
    rintro e w2 ⟨rfl, hb2⟩
    go_wp2
    go_ret
    exact ⟨rfl, by repeat (first | exact Ext.refl _ | assumption | apply Ext.drew | apply Ext.alloc | (refine Ext.setCell ?_ (by simp <;> omega) _) | refine Ext.trans ?_ (by assumption))⟩

set_option maxRecDepth 20000 in
theorem kFill3 (A B now cap : Int) (hA : U A) (hB : U B) (hn : U now) (hc : U cap) (w : World) :
    Calls Try.prog 32 #[.agg #[.int .u8 3, .int .u64 A, .int .u64 B], .int .u64 now, .int .u64 cap] w fun e w' =>
      e = .returned (.int .u64 (fil 3 A B now cap)) ∧ Ext w w' := by
  go_enter Try.func32, Try.ntmps32
  go_wp2
  go_region_held3 (fun w' => w'.cell? ⟨w.heap.size, 0, none⟩ = some (.int .u8 3) ∧ w'.cell? ⟨w.heap.size, 1, none⟩ = some (.int .u64 A) ∧ w'.cell? ⟨w.heap.size, 2, none⟩ = some (.int .u64 B))
    (first
      | go_keep
      | (go_split_ands
         refine ⟨hb.reads ?_, hb.reads ?_, hb.reads ?_⟩ <;> assumption)
      | (refine ⟨?_, ?_, ?_⟩ <;> (go_simp; done)))
      (first
      | (go_at_call 54; refine (kAll3 _).mono ?_; rintro e w1 ⟨b, rfl, hb, g1, g2⟩
         have s0 : w1.cell? ⟨w.heap.size, 0, none⟩ = some (.int .u8 3) := hb.reads (by go_simp)
         have s1 : w1.cell? ⟨w.heap.size, 1, none⟩ = some (.int .u64 A) := hb.reads (by go_simp)
         have s2 : w1.cell? ⟨w.heap.size, 2, none⟩ = some (.int .u64 B) := hb.reads (by go_simp)
         have hb0 : Ext ((w.alloc (.cells #[.int .u8 3, .int .u64 A, .int .u64 B] 34)).alloc (.cells #[.nilFunc, .nilFunc, .nilFunc] 83)).drew w1 := hb
         have n0 : w1.cell? ⟨w.heap.size + 1, 0, none⟩ = some .nilFunc := hb.reads (by go_simp)
         have n1 : w1.cell? ⟨w.heap.size + 1, 1, none⟩ = some .nilFunc := hb.reads (by go_simp)
         have n2 : w1.cell? ⟨w.heap.size + 1, 2, none⟩ = some .nilFunc := hb.reads (by go_simp)
         have f0 : w1.frozen? ⟨w.heap.size + 1, 0, none⟩ = false := hb.free (v := .nilFunc) (by go_simp) (by go_simp)
         have f1 : w1.frozen? ⟨w.heap.size + 1, 1, none⟩ = false := hb.free (v := .nilFunc) (by go_simp) (by go_simp)
         have f2 : w1.frozen? ⟨w.heap.size + 1, 2, none⟩ = false := hb.free (v := .nilFunc) (by go_simp) (by go_simp)
        )
      | (go_at_call 54; refine (kAll3 _).mono ?_; rintro e w1 ⟨b, rfl, hb, g1, g2⟩
         have s0 : w1.cell? ⟨w.heap.size, 0, none⟩ = some (.int .u8 3) := hb.reads (by go_simp)
         have s1 : w1.cell? ⟨w.heap.size, 1, none⟩ = some (.int .u64 A) := hb.reads (by go_simp)
         have s2 : w1.cell? ⟨w.heap.size, 2, none⟩ = some (.int .u64 B) := hb.reads (by go_simp)
        ))
  all_goals
    go_wp2_with fail
    refine (lFill' 3 A B now cap hA hB hn hc _).mono ?_
    rintro e w2 ⟨rfl, hb2⟩
    go_wp2
    go_ret
    exact ⟨rfl, by repeat (first | exact Ext.refl _ | assumption | apply Ext.drew | apply Ext.alloc | (refine Ext.setCell ?_ (by simp <;> omega) _) | refine Ext.trans ?_ (by assumption))⟩

set_option maxRecDepth 20000 in
theorem kFill0 (k : Int) (h1 : k ≠ 1) (h2 : k ≠ 2) (h3 : k ≠ 3) (A B now cap : Int) (hA : U A) (hB : U B) (hn : U now) (hc : U cap) (w : World) :
    Calls Try.prog 32 #[.agg #[.int .u8 k, .int .u64 A, .int .u64 B], .int .u64 now, .int .u64 cap] w fun e w' =>
      e = .returned (.int .u64 0) ∧ Ext w w' := by
  go_enter Try.func32, Try.ntmps32
  go_wp2
  go_region_held3 (fun w' => w'.cell? ⟨w.heap.size, 0, none⟩ = some (.int .u8 k) ∧ w'.cell? ⟨w.heap.size, 1, none⟩ = some (.int .u64 A) ∧ w'.cell? ⟨w.heap.size, 2, none⟩ = some (.int .u64 B))
    (first
      | go_keep
      | (go_split_ands
         refine ⟨hb.reads ?_, hb.reads ?_, hb.reads ?_⟩ <;> assumption)
      | (refine ⟨?_, ?_, ?_⟩ <;> (go_simp; done)))
      (first
      | (go_at_call 54; refine (kAll0 k h1 h2 h3 _).mono ?_; rintro e w1 ⟨b, rfl, hb, g1, g2⟩
         have s0 : w1.cell? ⟨w.heap.size, 0, none⟩ = some (.int .u8 k) := hb.reads (by go_simp)
         have s1 : w1.cell? ⟨w.heap.size, 1, none⟩ = some (.int .u64 A) := hb.reads (by go_simp)
         have s2 : w1.cell? ⟨w.heap.size, 2, none⟩ = some (.int .u64 B) := hb.reads (by go_simp)
         have hb0 : Ext ((w.alloc (.cells #[.int .u8 k, .int .u64 A, .int .u64 B] 34)).alloc (.cells #[.nilFunc, .nilFunc, .nilFunc] 83)).drew w1 := hb
         have n0 : w1.cell? ⟨w.heap.size + 1, 0, none⟩ = some .nilFunc := hb.reads (by go_simp)
         have n1 : w1.cell? ⟨w.heap.size + 1, 1, none⟩ = some .nilFunc := hb.reads (by go_simp)
         have n2 : w1.cell? ⟨w.heap.size + 1, 2, none⟩ = some .nilFunc := hb.reads (by go_simp)
         have f0 : w1.frozen? ⟨w.heap.size + 1, 0, none⟩ = false := hb.free (v := .nilFunc) (by go_simp) (by go_simp)
         have f1 : w1.frozen? ⟨w.heap.size + 1, 1, none⟩ = false := hb.free (v := .nilFunc) (by go_simp) (by go_simp)
         have f2 : w1.frozen? ⟨w.heap.size + 1, 2, none⟩ = false := hb.free (v := .nilFunc) (by go_simp) (by go_simp)
        )
      | (go_at_call 54; refine (kAll0 k h1 h2 h3 _).mono ?_; rintro e w1 ⟨b, rfl, hb, g1, g2⟩
         have s0 : w1.cell? ⟨w.heap.size, 0, none⟩ = some (.int .u8 k) := hb.reads (by go_simp)
         have s1 : w1.cell? ⟨w.heap.size, 1, none⟩ = some (.int .u64 A) := hb.reads (by go_simp)
         have s2 : w1.cell? ⟨w.heap.size, 2, none⟩ = some (.int .u64 B) := hb.reads (by go_simp)
        ))
  all_goals
    go_wp2
    go_ret
    exact ⟨rfl, by repeat (first | exact Ext.refl _ | assumption | apply Ext.drew | apply Ext.alloc | (refine Ext.setCell ?_ (by simp <;> omega) _) | refine Ext.trans ?_ (by assumption))⟩

end Go.Proofs.Ytfabgfenelaheaa
