/- Contracts of the layer kernel: Decide. -/
import Derived.Test.YtfabgfenelaheaaKernel
import Derived.RegionTactic
import Derived.Deep.Cut
import Derived.Deep.RegionHeld3
set_option linter.unusedVariables false
namespace Go.Proofs.Ytfabgfenelaheaa
open Go.RowKit

attribute [local go_sem] ite_min ite_max

set_option maxRecDepth 20000 in
set_option maxHeartbeats 400000 in
theorem kDecide1 (A B now cap v : Int) (hA : U A) (hB : U B) (hn : U now) (hc : U cap) (hv : U v) (w : World) :
    Calls Try.prog 36 #[.agg #[.int .u8 1, .int .u64 A, .int .u64 B], .int .u64 now, .int .u64 cap, .int .u64 v] w fun e w' =>
      e = .returned (.tuple #[.agg #[.int .u8 (gK 1 A B now cap v), .int .u64 (gA A B now cap v), .int .u64 (gB A B now cap v)], .bool (gok A B now cap v)]) ∧ Ext w w' := by
  go_enter Try.func36, Try.ntmps36
  go_wp2
  go_cut [10, 11] from 12 (fun s10 s11 wx => ∃ kb, s10 = .pointer (some ⟨kb, 0, none⟩) ∧ s11 = .bool true ∧ Ext w wx ∧ wx.cell? ⟨kb, 0, none⟩ = some (.func (.func 70) #[] #[]) ∧ wx.cell? ⟨kb, 1, none⟩ = some (.func (.func 71) #[] #[]) ∧ wx.cell? ⟨kb, 2, none⟩ = some (.func (.func 72) #[] #[]) ∧ wx.cell? ⟨w.heap.size, 0, none⟩ = some (.int .u8 1) ∧ wx.cell? ⟨w.heap.size, 1, none⟩ = some (.int .u64 A) ∧ wx.cell? ⟨w.heap.size, 2, none⟩ = some (.int .u64 B) ∧ wx.cell? ⟨w.heap.size + 1, 0, none⟩ = some (.int .u8 0) ∧ wx.cell? ⟨w.heap.size + 1, 1, none⟩ = some (.int .u64 0) ∧ wx.cell? ⟨w.heap.size + 1, 2, none⟩ = some (.int .u64 0) ∧ wx.frozen? ⟨w.heap.size + 1, 0, none⟩ = false ∧ wx.frozen? ⟨w.heap.size + 1, 1, none⟩ = false ∧ wx.frozen? ⟨w.heap.size + 1, 2, none⟩ = false)
  case first =>
    go_region_held3 (fun w' => w'.cell? ⟨w.heap.size, 0, none⟩ = some (.int .u8 1) ∧ w'.cell? ⟨w.heap.size, 1, none⟩ = some (.int .u64 A) ∧ w'.cell? ⟨w.heap.size, 2, none⟩ = some (.int .u64 B))
      (first
        | go_keep
        | (go_split_ands
           refine ⟨hb.reads ?_, hb.reads ?_, hb.reads ?_⟩ <;> assumption)
        | (refine ⟨?_, ?_, ?_⟩ <;> (go_simp; done)))
        (first
        | (go_at_call 54; refine (kAll1 _).mono ?_; rintro e w1 ⟨b, rfl, hb, g1, g2⟩
           have s0 : w1.cell? ⟨w.heap.size, 0, none⟩ = some (.int .u8 1) := hb.reads (by go_simp)
           have s1 : w1.cell? ⟨w.heap.size, 1, none⟩ = some (.int .u64 A) := hb.reads (by go_simp)
           have s2 : w1.cell? ⟨w.heap.size, 2, none⟩ = some (.int .u64 B) := hb.reads (by go_simp)
           have c0 : w1.cell? ⟨w.heap.size + 1, 0, none⟩ = some (.int .u8 0) := hb.reads (by go_simp)
           have c1 : w1.cell? ⟨w.heap.size + 1, 1, none⟩ = some (.int .u64 0) := hb.reads (by go_simp)
           have c2 : w1.cell? ⟨w.heap.size + 1, 2, none⟩ = some (.int .u64 0) := hb.reads (by go_simp)
           have f0 : w1.frozen? ⟨w.heap.size + 1, 0, none⟩ = false := hb.free (v := .int .u8 0) (by go_simp) (by go_simp)
           have f1 : w1.frozen? ⟨w.heap.size + 1, 1, none⟩ = false := hb.free (v := .int .u64 0) (by go_simp) (by go_simp)
           have f2 : w1.frozen? ⟨w.heap.size + 1, 2, none⟩ = false := hb.free (v := .int .u64 0) (by go_simp) (by go_simp)
           have z : w.heap.size + 1 < w1.heap.size := by have := hb.size; simp at this; omega
           have hb0 : Ext (((w.alloc (.cells #[.int .u8 1, .int .u64 A, .int .u64 B] 34)).alloc (.cells #[.int .u8 0, .int .u64 0, .int .u64 0] 34)).alloc (.cells #[.nilFunc, .nilFunc, .nilFunc] 83)).drew w1 := hb
           have n0 : w1.cell? ⟨w.heap.size + 2, 0, none⟩ = some .nilFunc := hb.reads (by go_simp)
           have n1 : w1.cell? ⟨w.heap.size + 2, 1, none⟩ = some .nilFunc := hb.reads (by go_simp)
           have n2 : w1.cell? ⟨w.heap.size + 2, 2, none⟩ = some .nilFunc := hb.reads (by go_simp)
           have fn0 : w1.frozen? ⟨w.heap.size + 2, 0, none⟩ = false := hb.free (v := .nilFunc) (by go_simp) (by go_simp)
           have fn1 : w1.frozen? ⟨w.heap.size + 2, 1, none⟩ = false := hb.free (v := .nilFunc) (by go_simp) (by go_simp)
           have fn2 : w1.frozen? ⟨w.heap.size + 2, 2, none⟩ = false := hb.free (v := .nilFunc) (by go_simp) (by go_simp)
          )
        | (go_at_call 54; refine (kAll1 _).mono ?_; rintro e w1 ⟨b, rfl, hb, g1, g2⟩
           have s0 : w1.cell? ⟨w.heap.size, 0, none⟩ = some (.int .u8 1) := hb.reads (by go_simp)
           have s1 : w1.cell? ⟨w.heap.size, 1, none⟩ = some (.int .u64 A) := hb.reads (by go_simp)
           have s2 : w1.cell? ⟨w.heap.size, 2, none⟩ = some (.int .u64 B) := hb.reads (by go_simp)
           have c0 : w1.cell? ⟨w.heap.size + 1, 0, none⟩ = some (.int .u8 0) := hb.reads (by go_simp)
           have c1 : w1.cell? ⟨w.heap.size + 1, 1, none⟩ = some (.int .u64 0) := hb.reads (by go_simp)
           have c2 : w1.cell? ⟨w.heap.size + 1, 2, none⟩ = some (.int .u64 0) := hb.reads (by go_simp)
           have f0 : w1.frozen? ⟨w.heap.size + 1, 0, none⟩ = false := hb.free (v := .int .u8 0) (by go_simp) (by go_simp)
           have f1 : w1.frozen? ⟨w.heap.size + 1, 1, none⟩ = false := hb.free (v := .int .u64 0) (by go_simp) (by go_simp)
           have f2 : w1.frozen? ⟨w.heap.size + 1, 2, none⟩ = false := hb.free (v := .int .u64 0) (by go_simp) (by go_simp)
           have z : w.heap.size + 1 < w1.heap.size := by have := hb.size; simp at this; omega
          ))
    all_goals
      go_wp2_with fail
      go_meet
      refine ⟨_, rfl, rfl, by repeat (first | exact Ext.refl _ | assumption | apply Ext.drew | apply Ext.alloc | (refine Ext.setCell ?_ (by simp <;> omega) _) | refine Ext.trans ?_ (by assumption)), ?_⟩
      go_split_ands
      refine ⟨?_, ?_, ?_, ?_, ?_, ?_, ?_, ?_, ?_, ?_, ?_, ?_⟩ <;> go_simp
  case rest =>
    obtain ⟨kb, rfl, rfl, hb, k0, k1, k2, s0, s1, s2, c0, c1, c2, f0, f1, f2⟩ := hcut
    go_wp2_with fail
    refine (gDecide 1 A B now cap v hA hB hn hc hv _).mono ?_
    rintro e w2 ⟨rfl, hb2⟩
    have c0' := hb2.reads c0
    have c1' := hb2.reads c1
    have c2' := hb2.reads c2
    have f0' := hb2.free c0 f0
    have f1' := hb2.free c1 f1
    have f2' := hb2.free c2 f2
    go_wp2
    exact bodyPost_ret (v := .tuple #[.agg #[.int .u8 (gK 1 A B now cap v), .int .u64 (gA A B now cap v), .int .u64 (gB A B now cap v)], .bool (gok A B now cap v)]) (by simp [results, Try.results36, go_sem, c0', c1', c2']) rfl ⟨rfl, by repeat (first | exact Ext.refl _ | assumption | apply Ext.drew | apply Ext.alloc | (refine Ext.setCell ?_ (by simp <;> omega) _) | refine Ext.trans ?_ (by assumption))⟩

set_option maxRecDepth 20000 in
set_option maxHeartbeats 400000 in
theorem kDecide2 (A B now cap v : Int) (hA : U A) (hB : U B) (hn : U now) (hc : U cap) (hv : U v) (w : World) :
    Calls Try.prog 36 #[.agg #[.int .u8 2, .int .u64 A, .int .u64 B], .int .u64 now, .int .u64 cap, .int .u64 v] w fun e w' =>
      e = .returned (.tuple #[.agg #[.int .u8 (bK 2 A B now cap v), .int .u64 (bA A B now cap v), .int .u64 (bB A B now cap v)], .bool (bok A B now cap v)]) ∧ Ext w w' := by
  go_enter Try.func36, Try.ntmps36
  go_wp2
  go_cut [10, 11] from 12 (fun s10 s11 wx => ∃ kb, s10 = .pointer (some ⟨kb, 0, none⟩) ∧ s11 = .bool true ∧ Ext w wx ∧ wx.cell? ⟨kb, 0, none⟩ = some (.func (.func 73) #[] #[]) ∧ wx.cell? ⟨kb, 1, none⟩ = some (.func (.func 74) #[] #[]) ∧ wx.cell? ⟨kb, 2, none⟩ = some (.func (.func 75) #[] #[]) ∧ wx.cell? ⟨w.heap.size, 0, none⟩ = some (.int .u8 2) ∧ wx.cell? ⟨w.heap.size, 1, none⟩ = some (.int .u64 A) ∧ wx.cell? ⟨w.heap.size, 2, none⟩ = some (.int .u64 B) ∧ wx.cell? ⟨w.heap.size + 1, 0, none⟩ = some (.int .u8 0) ∧ wx.cell? ⟨w.heap.size + 1, 1, none⟩ = some (.int .u64 0) ∧ wx.cell? ⟨w.heap.size + 1, 2, none⟩ = some (.int .u64 0) ∧ wx.frozen? ⟨w.heap.size + 1, 0, none⟩ = false ∧ wx.frozen? ⟨w.heap.size + 1, 1, none⟩ = false ∧ wx.frozen? ⟨w.heap.size + 1, 2, none⟩ = false)
  case first =>
    go_region_held3 (fun w' => w'.cell? ⟨w.heap.size, 0, none⟩ = some (.int .u8 2) ∧ w'.cell? ⟨w.heap.size, 1, none⟩ = some (.int .u64 A) ∧ w'.cell? ⟨w.heap.size, 2, none⟩ = some (.int .u64 B))
      (first
        | go_keep
        | (go_split_ands
           refine ⟨hb.reads ?_, hb.reads ?_, hb.reads ?_⟩ <;> assumption)
        | (refine ⟨?_, ?_, ?_⟩ <;> (go_simp; done)))
        (first
        | (go_at_call 54; refine (kAll2 _).mono ?_; rintro e w1 ⟨b, rfl, hb, g1, g2⟩
           have s0 : w1.cell? ⟨w.heap.size, 0, none⟩ = some (.int .u8 2) := hb.reads (by go_simp)
           have s1 : w1.cell? ⟨w.heap.size, 1, none⟩ = some (.int .u64 A) := hb.reads (by go_simp)
           have s2 : w1.cell? ⟨w.heap.size, 2, none⟩ = some (.int .u64 B) := hb.reads (by go_simp)
           have c0 : w1.cell? ⟨w.heap.size + 1, 0, none⟩ = some (.int .u8 0) := hb.reads (by go_simp)
           have c1 : w1.cell? ⟨w.heap.size + 1, 1, none⟩ = some (.int .u64 0) := hb.reads (by go_simp)
           have c2 : w1.cell? ⟨w.heap.size + 1, 2, none⟩ = some (.int .u64 0) := hb.reads (by go_simp)
           have f0 : w1.frozen? ⟨w.heap.size + 1, 0, none⟩ = false := hb.free (v := .int .u8 0) (by go_simp) (by go_simp)
           have f1 : w1.frozen? ⟨w.heap.size + 1, 1, none⟩ = false := hb.free (v := .int .u64 0) (by go_simp) (by go_simp)
           have f2 : w1.frozen? ⟨w.heap.size + 1, 2, none⟩ = false := hb.free (v := .int .u64 0) (by go_simp) (by go_simp)
           have z : w.heap.size + 1 < w1.heap.size := by have := hb.size; simp at this; omega
           have hb0 : Ext (((w.alloc (.cells #[.int .u8 2, .int .u64 A, .int .u64 B] 34)).alloc (.cells #[.int .u8 0, .int .u64 0, .int .u64 0] 34)).alloc (.cells #[.nilFunc, .nilFunc, .nilFunc] 83)).drew w1 := hb
           have n0 : w1.cell? ⟨w.heap.size + 2, 0, none⟩ = some .nilFunc := hb.reads (by go_simp)
           have n1 : w1.cell? ⟨w.heap.size + 2, 1, none⟩ = some .nilFunc := hb.reads (by go_simp)
           have n2 : w1.cell? ⟨w.heap.size + 2, 2, none⟩ = some .nilFunc := hb.reads (by go_simp)
           have fn0 : w1.frozen? ⟨w.heap.size + 2, 0, none⟩ = false := hb.free (v := .nilFunc) (by go_simp) (by go_simp)
           have fn1 : w1.frozen? ⟨w.heap.size + 2, 1, none⟩ = false := hb.free (v := .nilFunc) (by go_simp) (by go_simp)
           have fn2 : w1.frozen? ⟨w.heap.size + 2, 2, none⟩ = false := hb.free (v := .nilFunc) (by go_simp) (by go_simp)
          )
        | (go_at_call 54; refine (kAll2 _).mono ?_; rintro e w1 ⟨b, rfl, hb, g1, g2⟩
           have s0 : w1.cell? ⟨w.heap.size, 0, none⟩ = some (.int .u8 2) := hb.reads (by go_simp)
           have s1 : w1.cell? ⟨w.heap.size, 1, none⟩ = some (.int .u64 A) := hb.reads (by go_simp)
           have s2 : w1.cell? ⟨w.heap.size, 2, none⟩ = some (.int .u64 B) := hb.reads (by go_simp)
           have c0 : w1.cell? ⟨w.heap.size + 1, 0, none⟩ = some (.int .u8 0) := hb.reads (by go_simp)
           have c1 : w1.cell? ⟨w.heap.size + 1, 1, none⟩ = some (.int .u64 0) := hb.reads (by go_simp)
           have c2 : w1.cell? ⟨w.heap.size + 1, 2, none⟩ = some (.int .u64 0) := hb.reads (by go_simp)
           have f0 : w1.frozen? ⟨w.heap.size + 1, 0, none⟩ = false := hb.free (v := .int .u8 0) (by go_simp) (by go_simp)
           have f1 : w1.frozen? ⟨w.heap.size + 1, 1, none⟩ = false := hb.free (v := .int .u64 0) (by go_simp) (by go_simp)
           have f2 : w1.frozen? ⟨w.heap.size + 1, 2, none⟩ = false := hb.free (v := .int .u64 0) (by go_simp) (by go_simp)
           have z : w.heap.size + 1 < w1.heap.size := by have := hb.size; simp at this; omega
          ))
    all_goals
      go_wp2_with fail
      go_meet
      refine ⟨_, rfl, rfl, by repeat (first | exact Ext.refl _ | assumption | apply Ext.drew | apply Ext.alloc | (refine Ext.setCell ?_ (by simp <;> omega) _) | refine Ext.trans ?_ (by assumption)), ?_⟩
      go_split_ands
      refine ⟨?_, ?_, ?_, ?_, ?_, ?_, ?_, ?_, ?_, ?_, ?_, ?_⟩ <;> go_simp
  case rest =>
    obtain ⟨kb, rfl, rfl, hb, k0, k1, k2, s0, s1, s2, c0, c1, c2, f0, f1, f2⟩ := hcut
    go_wp2_with fail
    refine (bDecide 2 A B now cap v hA hB hn hc hv _).mono ?_
    rintro e w2 ⟨rfl, hb2⟩
    have c0' := hb2.reads c0
    have c1' := hb2.reads c1
    have c2' := hb2.reads c2
    have f0' := hb2.free c0 f0
    have f1' := hb2.free c1 f1
    have f2' := hb2.free c2 f2
    go_wp2
    exact bodyPost_ret (v := .tuple #[.agg #[.int .u8 (bK 2 A B now cap v), .int .u64 (bA A B now cap v), .int .u64 (bB A B now cap v)], .bool (bok A B now cap v)]) (by simp [results, Try.results36, go_sem, c0', c1', c2']) rfl ⟨rfl, by repeat (first | exact Ext.refl _ | assumption | apply Ext.drew | apply Ext.alloc | (refine Ext.setCell ?_ (by simp <;> omega) _) | refine Ext.trans ?_ (by assumption))⟩

set_option maxRecDepth 20000 in
set_option maxHeartbeats 400000 in
theorem kDecide3 (A B now cap v : Int) (hA : U A) (hB : U B) (hn : U now) (hc : U cap) (hv : U v) (w : World) :
    Calls Try.prog 36 #[.agg #[.int .u8 3, .int .u64 A, .int .u64 B], .int .u64 now, .int .u64 cap, .int .u64 v] w fun e w' =>
      e = .returned (.tuple #[.agg #[.int .u8 (lK 3 A B now cap v), .int .u64 (lA A B now cap v), .int .u64 (lB A B now cap v)], .bool (lok A B now cap v)]) ∧ Ext w w' := by
  go_enter Try.func36, Try.ntmps36
  go_wp2
  go_cut [10, 11] from 12 (fun s10 s11 wx => ∃ kb, s10 = .pointer (some ⟨kb, 0, none⟩) ∧ s11 = .bool true ∧ Ext w wx ∧ wx.cell? ⟨kb, 0, none⟩ = some (.func (.func 76) #[] #[]) ∧ wx.cell? ⟨kb, 1, none⟩ = some (.func (.func 77) #[] #[]) ∧ wx.cell? ⟨kb, 2, none⟩ = some (.func (.func 78) #[] #[]) ∧ wx.cell? ⟨w.heap.size, 0, none⟩ = some (.int .u8 3) ∧ wx.cell? ⟨w.heap.size, 1, none⟩ = some (.int .u64 A) ∧ wx.cell? ⟨w.heap.size, 2, none⟩ = some (.int .u64 B) ∧ wx.cell? ⟨w.heap.size + 1, 0, none⟩ = some (.int .u8 0) ∧ wx.cell? ⟨w.heap.size + 1, 1, none⟩ = some (.int .u64 0) ∧ wx.cell? ⟨w.heap.size + 1, 2, none⟩ = some (.int .u64 0) ∧ wx.frozen? ⟨w.heap.size + 1, 0, none⟩ = false ∧ wx.frozen? ⟨w.heap.size + 1, 1, none⟩ = false ∧ wx.frozen? ⟨w.heap.size + 1, 2, none⟩ = false)
  case first =>
    go_region_held3 (fun w' => w'.cell? ⟨w.heap.size, 0, none⟩ = some (.int .u8 3) ∧ w'.cell? ⟨w.heap.size, 1, none⟩ = some (.int .u64 A) ∧ w'.cell? ⟨w.heap.size, 2, none⟩ = some (.int .u64 B))
      (first
        | go_keep
        | (go_split_ands
           refine ⟨hb.reads ?_, hb.reads ?_, hb.reads ?_⟩ <;> assumption)
        | (refine ⟨?_, ?_, ?_⟩ <;> (go_simp; done)))
        (first
        | (go_at_call 54; refine (kAll3 _).mono ?_; rintro e w1 ⟨b, rfl, hb, g1, g2⟩
           have s0 : w1.cell? ⟨w.heap.size, 0, none⟩ = some (.int .u8 3) := hb.reads (by go_simp)
           have s1 : w1.cell? ⟨w.heap.size, 1, none⟩ = some (.int .u64 A) := hb.reads (by go_simp)
           have s2 : w1.cell? ⟨w.heap.size, 2, none⟩ = some (.int .u64 B) := hb.reads (by go_simp)
           have c0 : w1.cell? ⟨w.heap.size + 1, 0, none⟩ = some (.int .u8 0) := hb.reads (by go_simp)
           have c1 : w1.cell? ⟨w.heap.size + 1, 1, none⟩ = some (.int .u64 0) := hb.reads (by go_simp)
           have c2 : w1.cell? ⟨w.heap.size + 1, 2, none⟩ = some (.int .u64 0) := hb.reads (by go_simp)
           have f0 : w1.frozen? ⟨w.heap.size + 1, 0, none⟩ = false := hb.free (v := .int .u8 0) (by go_simp) (by go_simp)
           have f1 : w1.frozen? ⟨w.heap.size + 1, 1, none⟩ = false := hb.free (v := .int .u64 0) (by go_simp) (by go_simp)
           have f2 : w1.frozen? ⟨w.heap.size + 1, 2, none⟩ = false := hb.free (v := .int .u64 0) (by go_simp) (by go_simp)
           have z : w.heap.size + 1 < w1.heap.size := by have := hb.size; simp at this; omega
           have hb0 : Ext (((w.alloc (.cells #[.int .u8 3, .int .u64 A, .int .u64 B] 34)).alloc (.cells #[.int .u8 0, .int .u64 0, .int .u64 0] 34)).alloc (.cells #[.nilFunc, .nilFunc, .nilFunc] 83)).drew w1 := hb
           have n0 : w1.cell? ⟨w.heap.size + 2, 0, none⟩ = some .nilFunc := hb.reads (by go_simp)
           have n1 : w1.cell? ⟨w.heap.size + 2, 1, none⟩ = some .nilFunc := hb.reads (by go_simp)
           have n2 : w1.cell? ⟨w.heap.size + 2, 2, none⟩ = some .nilFunc := hb.reads (by go_simp)
           have fn0 : w1.frozen? ⟨w.heap.size + 2, 0, none⟩ = false := hb.free (v := .nilFunc) (by go_simp) (by go_simp)
           have fn1 : w1.frozen? ⟨w.heap.size + 2, 1, none⟩ = false := hb.free (v := .nilFunc) (by go_simp) (by go_simp)
           have fn2 : w1.frozen? ⟨w.heap.size + 2, 2, none⟩ = false := hb.free (v := .nilFunc) (by go_simp) (by go_simp)
          )
        | (go_at_call 54; refine (kAll3 _).mono ?_; rintro e w1 ⟨b, rfl, hb, g1, g2⟩
           have s0 : w1.cell? ⟨w.heap.size, 0, none⟩ = some (.int .u8 3) := hb.reads (by go_simp)
           have s1 : w1.cell? ⟨w.heap.size, 1, none⟩ = some (.int .u64 A) := hb.reads (by go_simp)
           have s2 : w1.cell? ⟨w.heap.size, 2, none⟩ = some (.int .u64 B) := hb.reads (by go_simp)
           have c0 : w1.cell? ⟨w.heap.size + 1, 0, none⟩ = some (.int .u8 0) := hb.reads (by go_simp)
           have c1 : w1.cell? ⟨w.heap.size + 1, 1, none⟩ = some (.int .u64 0) := hb.reads (by go_simp)
           have c2 : w1.cell? ⟨w.heap.size + 1, 2, none⟩ = some (.int .u64 0) := hb.reads (by go_simp)
           have f0 : w1.frozen? ⟨w.heap.size + 1, 0, none⟩ = false := hb.free (v := .int .u8 0) (by go_simp) (by go_simp)
           have f1 : w1.frozen? ⟨w.heap.size + 1, 1, none⟩ = false := hb.free (v := .int .u64 0) (by go_simp) (by go_simp)
           have f2 : w1.frozen? ⟨w.heap.size + 1, 2, none⟩ = false := hb.free (v := .int .u64 0) (by go_simp) (by go_simp)
           have z : w.heap.size + 1 < w1.heap.size := by have := hb.size; simp at this; omega
          ))
    all_goals
      go_wp2_with fail
      go_meet
      refine ⟨_, rfl, rfl, by repeat (first | exact Ext.refl _ | assumption | apply Ext.drew | apply Ext.alloc | (refine Ext.setCell ?_ (by simp <;> omega) _) | refine Ext.trans ?_ (by assumption)), ?_⟩
      go_split_ands
      refine ⟨?_, ?_, ?_, ?_, ?_, ?_, ?_, ?_, ?_, ?_, ?_, ?_⟩ <;> go_simp
  case rest =>
    obtain ⟨kb, rfl, rfl, hb, k0, k1, k2, s0, s1, s2, c0, c1, c2, f0, f1, f2⟩ := hcut
    go_wp2_with fail
    refine (lDecide 3 A B now cap v hA hB hn hc hv _).mono ?_
    rintro e w2 ⟨rfl, hb2⟩
    have c0' := hb2.reads c0
    have c1' := hb2.reads c1
    have c2' := hb2.reads c2
    have f0' := hb2.free c0 f0
    have f1' := hb2.free c1 f1
    have f2' := hb2.free c2 f2
    go_wp2
    exact bodyPost_ret (v := .tuple #[.agg #[.int .u8 (lK 3 A B now cap v), .int .u64 (lA A B now cap v), .int .u64 (lB A B now cap v)], .bool (lok A B now cap v)]) (by simp [results, Try.results36, go_sem, c0', c1', c2']) rfl ⟨rfl, by repeat (first | exact Ext.refl _ | assumption | apply Ext.drew | apply Ext.alloc | (refine Ext.setCell ?_ (by simp <;> omega) _) | refine Ext.trans ?_ (by assumption))⟩

set_option maxRecDepth 20000 in
set_option maxHeartbeats 400000 in
theorem kDecide0 (k : Int) (h1 : k ≠ 1) (h2 : k ≠ 2) (h3 : k ≠ 3) (A B now cap v : Int) (hA : U A) (hB : U B) (hn : U now) (hc : U cap) (hv : U v) (w : World) :
    Calls Try.prog 36 #[.agg #[.int .u8 k, .int .u64 A, .int .u64 B], .int .u64 now, .int .u64 cap, .int .u64 v] w fun e w' =>
      e = .returned (.tuple #[.agg #[.int .u8 k, .int .u64 A, .int .u64 B], .bool false]) ∧ Ext w w' := by
  go_enter Try.func36, Try.ntmps36
  go_wp2
  go_cut [10, 11] from 12 (fun s10 s11 wx => ∃ kb, s10 = .pointer (some ⟨kb, 0, none⟩) ∧ s11 = .bool false ∧ Ext w wx ∧ wx.cell? ⟨kb, 0, none⟩ = some (.nilFunc) ∧ wx.cell? ⟨kb, 1, none⟩ = some (.nilFunc) ∧ wx.cell? ⟨kb, 2, none⟩ = some (.nilFunc) ∧ wx.cell? ⟨w.heap.size, 0, none⟩ = some (.int .u8 k) ∧ wx.cell? ⟨w.heap.size, 1, none⟩ = some (.int .u64 A) ∧ wx.cell? ⟨w.heap.size, 2, none⟩ = some (.int .u64 B) ∧ wx.cell? ⟨w.heap.size + 1, 0, none⟩ = some (.int .u8 0) ∧ wx.cell? ⟨w.heap.size + 1, 1, none⟩ = some (.int .u64 0) ∧ wx.cell? ⟨w.heap.size + 1, 2, none⟩ = some (.int .u64 0) ∧ wx.frozen? ⟨w.heap.size + 1, 0, none⟩ = false ∧ wx.frozen? ⟨w.heap.size + 1, 1, none⟩ = false ∧ wx.frozen? ⟨w.heap.size + 1, 2, none⟩ = false)
  case first =>
    go_region_held3 (fun w' => w'.cell? ⟨w.heap.size, 0, none⟩ = some (.int .u8 k) ∧ w'.cell? ⟨w.heap.size, 1, none⟩ = some (.int .u64 A) ∧ w'.cell? ⟨w.heap.size, 2, none⟩ = some (.int .u64 B))
      (first
        | go_keep
        | (go_split_ands
           refine ⟨hb.reads ?_, hb.reads ?_, hb.reads ?_⟩ <;> assumption)
        | (refine ⟨?_, ?_, ?_⟩ <;> (go_simp; done)))
        (first
        | (go_at_call 54; refine (kAll0 k h1 h2 h3 _).mono ?_; rintro e w1 ⟨b, rfl, hb, g1, g2⟩
           have s0 : w1.cell? ⟨w.heap.size, 0, none⟩ = some (.int .u8 k) := hb.reads (by go_simp)
           have s1 : w1.cell? ⟨w.heap.size, 1, none⟩ = some (.int .u64 A) := hb.reads (by go_simp)
           have s2 : w1.cell? ⟨w.heap.size, 2, none⟩ = some (.int .u64 B) := hb.reads (by go_simp)
           have c0 : w1.cell? ⟨w.heap.size + 1, 0, none⟩ = some (.int .u8 0) := hb.reads (by go_simp)
           have c1 : w1.cell? ⟨w.heap.size + 1, 1, none⟩ = some (.int .u64 0) := hb.reads (by go_simp)
           have c2 : w1.cell? ⟨w.heap.size + 1, 2, none⟩ = some (.int .u64 0) := hb.reads (by go_simp)
           have f0 : w1.frozen? ⟨w.heap.size + 1, 0, none⟩ = false := hb.free (v := .int .u8 0) (by go_simp) (by go_simp)
           have f1 : w1.frozen? ⟨w.heap.size + 1, 1, none⟩ = false := hb.free (v := .int .u64 0) (by go_simp) (by go_simp)
           have f2 : w1.frozen? ⟨w.heap.size + 1, 2, none⟩ = false := hb.free (v := .int .u64 0) (by go_simp) (by go_simp)
           have z : w.heap.size + 1 < w1.heap.size := by have := hb.size; simp at this; omega
           have hb0 : Ext (((w.alloc (.cells #[.int .u8 k, .int .u64 A, .int .u64 B] 34)).alloc (.cells #[.int .u8 0, .int .u64 0, .int .u64 0] 34)).alloc (.cells #[.nilFunc, .nilFunc, .nilFunc] 83)).drew w1 := hb
           have n0 : w1.cell? ⟨w.heap.size + 2, 0, none⟩ = some .nilFunc := hb.reads (by go_simp)
           have n1 : w1.cell? ⟨w.heap.size + 2, 1, none⟩ = some .nilFunc := hb.reads (by go_simp)
           have n2 : w1.cell? ⟨w.heap.size + 2, 2, none⟩ = some .nilFunc := hb.reads (by go_simp)
           have fn0 : w1.frozen? ⟨w.heap.size + 2, 0, none⟩ = false := hb.free (v := .nilFunc) (by go_simp) (by go_simp)
           have fn1 : w1.frozen? ⟨w.heap.size + 2, 1, none⟩ = false := hb.free (v := .nilFunc) (by go_simp) (by go_simp)
           have fn2 : w1.frozen? ⟨w.heap.size + 2, 2, none⟩ = false := hb.free (v := .nilFunc) (by go_simp) (by go_simp)
          )
        | (go_at_call 54; refine (kAll0 k h1 h2 h3 _).mono ?_; rintro e w1 ⟨b, rfl, hb, g1, g2⟩
           have s0 : w1.cell? ⟨w.heap.size, 0, none⟩ = some (.int .u8 k) := hb.reads (by go_simp)
           have s1 : w1.cell? ⟨w.heap.size, 1, none⟩ = some (.int .u64 A) := hb.reads (by go_simp)
           have s2 : w1.cell? ⟨w.heap.size, 2, none⟩ = some (.int .u64 B) := hb.reads (by go_simp)
           have c0 : w1.cell? ⟨w.heap.size + 1, 0, none⟩ = some (.int .u8 0) := hb.reads (by go_simp)
           have c1 : w1.cell? ⟨w.heap.size + 1, 1, none⟩ = some (.int .u64 0) := hb.reads (by go_simp)
           have c2 : w1.cell? ⟨w.heap.size + 1, 2, none⟩ = some (.int .u64 0) := hb.reads (by go_simp)
           have f0 : w1.frozen? ⟨w.heap.size + 1, 0, none⟩ = false := hb.free (v := .int .u8 0) (by go_simp) (by go_simp)
           have f1 : w1.frozen? ⟨w.heap.size + 1, 1, none⟩ = false := hb.free (v := .int .u64 0) (by go_simp) (by go_simp)
           have f2 : w1.frozen? ⟨w.heap.size + 1, 2, none⟩ = false := hb.free (v := .int .u64 0) (by go_simp) (by go_simp)
           have z : w.heap.size + 1 < w1.heap.size := by have := hb.size; simp at this; omega
          ))
    all_goals
      go_wp2_with fail
      go_meet
      refine ⟨_, rfl, rfl, by repeat (first | exact Ext.refl _ | assumption | apply Ext.drew | apply Ext.alloc | (refine Ext.setCell ?_ (by simp <;> omega) _) | refine Ext.trans ?_ (by assumption)), ?_⟩
      go_split_ands
      refine ⟨?_, ?_, ?_, ?_, ?_, ?_, ?_, ?_, ?_, ?_, ?_, ?_⟩ <;> go_simp
  case rest =>
    obtain ⟨kb, rfl, rfl, hb, k0, k1, k2, s0, s1, s2, c0, c1, c2, f0, f1, f2⟩ := hcut
    go_wp2
    exact bodyPost_ret (v := .tuple #[.agg #[.int .u8 k, .int .u64 A, .int .u64 B], .bool false]) (by simp [results, Try.results36, go_sem, c0, c1, c2]) rfl ⟨rfl, by repeat (first | exact Ext.refl _ | assumption | apply Ext.drew | apply Ext.alloc | (refine Ext.setCell ?_ (by simp <;> omega) _) | refine Ext.trans ?_ (by assumption))⟩

end Go.Proofs.Ytfabgfenelaheaa
