/- Contracts of the reference of the layer kernel. -/
import Derived.Test.YtfabgfenelaheaaSpecK
import Derived.Test.YtfabgfenelaheaaBucket
import Derived.Test.YtfabgfenelaheaaLeaky
import Derived.Test.YtfabgfenelaheaaGcra
import Derived.RegionTactic
import Derived.Deep.RegionHeld3
set_option linter.unusedVariables false
namespace Go.Proofs.Ytfabgfenelaheaa
open Go.RowKit

attribute [local go_sem] ite_min ite_max

theorem other3 {w1 : World} {b t : Nat} (hne : b ≠ t) (x y z : Value) : ∀ W, ((w1.setCell ⟨t, 0, none⟩ x).setCell ⟨t, 1, none⟩ y).setCell ⟨t, 2, none⟩ z = W →
    (∀ i, W.cell? ⟨b, i, none⟩ = w1.cell? ⟨b, i, none⟩) ∧ ∀ i, W.frozen? ⟨b, i, none⟩ = w1.frozen? ⟨b, i, none⟩ := by
  rintro W rfl
  refine ⟨fun i => ?_, fun i => by simp⟩
  have n (j : Nat) : (⟨t, j, none⟩ : Addr) ≠ ⟨b, i, none⟩ := fun e => hne (by cases e; rfl)
  rw [World.cell?_setCell_other (h := n 2), World.cell?_setCell_other (h := n 1), World.cell?_setCell_other (h := n 0)]

theorem q7Right (k : Int) (w : World) :
    Calls Try.prog 40 #[.int .u8 k] w fun e w' => e = .returned (.bool (isK k)) ∧ w = w' := by
  by_cases h1 : 1 ≤ k
  · by_cases h2 : k ≤ 3
    · rw [show isK k = true from isK_iff.2 (by omega)]
      go_enter Try.func40, Try.ntmps40
      go_wp2
      go_ret
      exact ⟨ret_bool (by simp <;> omega), rfl⟩
    · rw [isK_0 (k := k) (by omega) (by omega) (by omega)]
      go_enter Try.func40, Try.ntmps40
      go_wp2
      go_ret
      exact ⟨ret_bool (by simp <;> omega), rfl⟩
  · rw [isK_0 (k := k) (by omega) (by omega) (by omega)]
    go_enter Try.func40, Try.ntmps40
    go_wp2
    go_ret
    exact ⟨ret_bool (by simp <;> omega), rfl⟩

theorem q7Fill (k A B now cap : Int) (hA : U A) (hB : U B) (hn : U now) (hc : U cap) (w : World) :
    Calls Try.prog 63 #[.agg #[.int .u8 k, .int .u64 A, .int .u64 B], .int .u64 now, .int .u64 cap] w fun e w' =>
      e = .returned (.int .u64 (fil k A B now cap)) ∧ Ext w w' := by
  rcases kcase k with rfl | rfl | rfl | ⟨h1, h2, h3⟩
  · go_enter Try.func63, Try.ntmps63
    go_wp2_with fail
    refine (r6Fill' 1 A B now cap hA hB hn hc _).mono ?_
    rintro e w1 ⟨rfl, hb⟩
    go_wp2
    go_ret
    exact ⟨rfl, by repeat (first | exact Ext.refl _ | assumption | apply Ext.drew | apply Ext.alloc | (refine Ext.setCell ?_ (by simp <;> omega) _) | refine Ext.trans ?_ (by assumption))⟩
  · go_enter Try.func63, Try.ntmps63
    go_wp2_with fail
    refine (r5Fill 2 A B now cap hA hB hn hc _).mono ?_
    rintro e w1 ⟨rfl, hb⟩
    go_wp2
    go_ret
    exact ⟨rfl, by repeat (first | exact Ext.refl _ | assumption | apply Ext.drew | apply Ext.alloc | (refine Ext.setCell ?_ (by simp <;> omega) _) | refine Ext.trans ?_ (by assumption))⟩
  · go_enter Try.func63, Try.ntmps63
    go_wp2_with fail
    refine (r4Fill' 3 A B now cap hA hB hn hc _).mono ?_
    rintro e w1 ⟨rfl, hb⟩
    go_wp2
    go_ret
    exact ⟨rfl, by repeat (first | exact Ext.refl _ | assumption | apply Ext.drew | apply Ext.alloc | (refine Ext.setCell ?_ (by simp <;> omega) _) | refine Ext.trans ?_ (by assumption))⟩
  · rw [fil_0 _ _ _ _ h1 h2 h3]
    have b1 := beq_false_of_ne h1
    have b2 := beq_false_of_ne h2
    have b3 := beq_false_of_ne h3
    go_enter Try.func63, Try.ntmps63
    go_wp2
    go_ret
    exact ⟨rfl, by repeat (first | exact Ext.refl _ | assumption | apply Ext.drew | apply Ext.alloc | (refine Ext.setCell ?_ (by simp <;> omega) _) | refine Ext.trans ?_ (by assumption))⟩

theorem q7Of (k now cap fill : Int) (hn : U now) (hc : U cap) (hf : U fill) (w : World) :
    Calls Try.prog 60 #[.int .u8 k, .int .u64 now, .int .u64 cap, .int .u64 fill] w fun e w' =>
      e = .returned (.tuple #[.agg #[.int .u8 (oK k), .int .u64 (oA k now cap fill), .int .u64 (oB k now)], .int .i64 (oE k)]) ∧ Ext w w' := by
  rcases kcase k with rfl | rfl | rfl | ⟨h1, h2, h3⟩
  · go_enter Try.func60, Try.ntmps60
    go_wp2_with fail
    refine (r6Of' now cap fill hn hc hf _).mono ?_
    rintro e w1 ⟨rfl, hb⟩
    have c0 : w1.cell? ⟨w.heap.size, 0, none⟩ = some (.int .u8 0) := hb.reads (by go_simp)
    have c1 : w1.cell? ⟨w.heap.size, 1, none⟩ = some (.int .u64 0) := hb.reads (by go_simp)
    have c2 : w1.cell? ⟨w.heap.size, 2, none⟩ = some (.int .u64 0) := hb.reads (by go_simp)
    have f0 : w1.frozen? ⟨w.heap.size, 0, none⟩ = false := hb.free (v := .int .u8 0) (by go_simp) (by go_simp)
    have f1 : w1.frozen? ⟨w.heap.size, 1, none⟩ = false := hb.free (v := .int .u64 0) (by go_simp) (by go_simp)
    have f2 : w1.frozen? ⟨w.heap.size, 2, none⟩ = false := hb.free (v := .int .u64 0) (by go_simp) (by go_simp)
    go_wp2
    exact bodyPost_ret (v := .tuple #[.agg #[.int .u8 1, .int .u64 (uadd now fill), .int .u64 0], .int .i64 0]) (by simp [results, Try.results60, go_sem, c0, c1, c2]) rfl ⟨rfl, by repeat (first | exact Ext.refl _ | assumption | apply Ext.drew | apply Ext.alloc | (refine Ext.setCell ?_ (by simp <;> omega) _) | refine Ext.trans ?_ (by assumption))⟩
  · go_enter Try.func60, Try.ntmps60
    go_wp2_with fail
    refine (r5Of now cap fill hn hc hf _).mono ?_
    rintro e w1 ⟨rfl, hb⟩
    have c0 : w1.cell? ⟨w.heap.size, 0, none⟩ = some (.int .u8 0) := hb.reads (by go_simp)
    have c1 : w1.cell? ⟨w.heap.size, 1, none⟩ = some (.int .u64 0) := hb.reads (by go_simp)
    have c2 : w1.cell? ⟨w.heap.size, 2, none⟩ = some (.int .u64 0) := hb.reads (by go_simp)
    have f0 : w1.frozen? ⟨w.heap.size, 0, none⟩ = false := hb.free (v := .int .u8 0) (by go_simp) (by go_simp)
    have f1 : w1.frozen? ⟨w.heap.size, 1, none⟩ = false := hb.free (v := .int .u64 0) (by go_simp) (by go_simp)
    have f2 : w1.frozen? ⟨w.heap.size, 2, none⟩ = false := hb.free (v := .int .u64 0) (by go_simp) (by go_simp)
    go_wp2
    exact bodyPost_ret (v := .tuple #[.agg #[.int .u8 2, .int .u64 (usub cap fill), .int .u64 now], .int .i64 0]) (by simp [results, Try.results60, go_sem, c0, c1, c2]) rfl ⟨rfl, by repeat (first | exact Ext.refl _ | assumption | apply Ext.drew | apply Ext.alloc | (refine Ext.setCell ?_ (by simp <;> omega) _) | refine Ext.trans ?_ (by assumption))⟩
  · go_enter Try.func60, Try.ntmps60
    go_wp2_with fail
    refine (r4Of' now cap fill hn hc hf _).mono ?_
    rintro e w1 ⟨rfl, hb⟩
    have c0 : w1.cell? ⟨w.heap.size, 0, none⟩ = some (.int .u8 0) := hb.reads (by go_simp)
    have c1 : w1.cell? ⟨w.heap.size, 1, none⟩ = some (.int .u64 0) := hb.reads (by go_simp)
    have c2 : w1.cell? ⟨w.heap.size, 2, none⟩ = some (.int .u64 0) := hb.reads (by go_simp)
    have f0 : w1.frozen? ⟨w.heap.size, 0, none⟩ = false := hb.free (v := .int .u8 0) (by go_simp) (by go_simp)
    have f1 : w1.frozen? ⟨w.heap.size, 1, none⟩ = false := hb.free (v := .int .u64 0) (by go_simp) (by go_simp)
    have f2 : w1.frozen? ⟨w.heap.size, 2, none⟩ = false := hb.free (v := .int .u64 0) (by go_simp) (by go_simp)
    go_wp2
    exact bodyPost_ret (v := .tuple #[.agg #[.int .u8 3, .int .u64 fill, .int .u64 now], .int .i64 0]) (by simp [results, Try.results60, go_sem, c0, c1, c2]) rfl ⟨rfl, by repeat (first | exact Ext.refl _ | assumption | apply Ext.drew | apply Ext.alloc | (refine Ext.setCell ?_ (by simp <;> omega) _) | refine Ext.trans ?_ (by assumption))⟩
  · rw [oK_0 h1 h2 h3, oA_0 _ _ _ h1 h2 h3, oB_0 _ h1 h2 h3, oE_0 h1 h2 h3]
    have b1 := beq_false_of_ne h1
    have b2 := beq_false_of_ne h2
    have b3 := beq_false_of_ne h3
    go_enter Try.func60, Try.ntmps60
    go_wp2
    exact bodyPost_ret (v := .tuple #[.agg #[.int .u8 0, .int .u64 0, .int .u64 0], .int .i64 27]) (by simp [results, Try.results60, go_sem]) rfl ⟨rfl, by repeat (first | exact Ext.refl _ | assumption | apply Ext.drew | apply Ext.alloc | (refine Ext.setCell ?_ (by simp <;> omega) _) | refine Ext.trans ?_ (by assumption))⟩

set_option maxHeartbeats 1000000 in
theorem q7Decide (k A B now cap v : Int) (hA : U A) (hB : U B) (hn : U now) (hc : U cap) (hv : U v) (w : World) :
    Calls Try.prog 59 #[.agg #[.int .u8 k, .int .u64 A, .int .u64 B], .int .u64 now, .int .u64 cap, .int .u64 v] w fun e w' =>
      e = .returned (.tuple #[.agg #[.int .u8 (dK k A B now cap v), .int .u64 (dA k A B now cap v), .int .u64 (dB k A B now cap v)], .bool (dok k A B now cap v)]) ∧ Ext w w' := by
  rcases kcase k with rfl | rfl | rfl | ⟨h1, h2, h3⟩
  · rw [dK_1, dA_1, dB_1, dok_1]
    go_enter Try.func59, Try.ntmps59
    go_wp2_with fail
    refine (r6Decide 1 A B now cap v hA hB hn hc hv _).mono ?_
    rintro e w1 ⟨rfl, hb⟩
    have c0 : w1.cell? ⟨w.heap.size + 1, 0, none⟩ = some (.int .u8 0) := hb.reads (by go_simp)
    have c1 : w1.cell? ⟨w.heap.size + 1, 1, none⟩ = some (.int .u64 0) := hb.reads (by go_simp)
    have c2 : w1.cell? ⟨w.heap.size + 1, 2, none⟩ = some (.int .u64 0) := hb.reads (by go_simp)
    have f0 : w1.frozen? ⟨w.heap.size + 1, 0, none⟩ = false := hb.free (v := .int .u8 0) (by go_simp) (by go_simp)
    have f1 : w1.frozen? ⟨w.heap.size + 1, 1, none⟩ = false := hb.free (v := .int .u64 0) (by go_simp) (by go_simp)
    have f2 : w1.frozen? ⟨w.heap.size + 1, 2, none⟩ = false := hb.free (v := .int .u64 0) (by go_simp) (by go_simp)
    have t0 : w1.cell? ⟨w.heap.size + 2, 0, none⟩ = some (.int .u8 1) := hb.reads (by go_simp)
    have t1 : w1.cell? ⟨w.heap.size + 2, 1, none⟩ = some (.int .u64 A) := hb.reads (by go_simp)
    have t2 : w1.cell? ⟨w.heap.size + 2, 2, none⟩ = some (.int .u64 B) := hb.reads (by go_simp)
    have g0 : w1.frozen? ⟨w.heap.size + 2, 0, none⟩ = false := hb.free (v := .int .u8 1) (by go_simp) (by go_simp)
    have g1 : w1.frozen? ⟨w.heap.size + 2, 1, none⟩ = false := hb.free (v := .int .u64 A) (by go_simp) (by go_simp)
    have g2 : w1.frozen? ⟨w.heap.size + 2, 2, none⟩ = false := hb.free (v := .int .u64 B) (by go_simp) (by go_simp)
    go_wp2
    obtain ⟨W2, eW⟩ : ∃ W2, (((w1.setCell ⟨w.heap.size + 1 + 1, 0, none⟩ (.int .u8 (gK 1 A B now cap v))).setCell ⟨w.heap.size + 1 + 1, 1, none⟩ (.int .u64 (gA A B now cap v))).setCell ⟨w.heap.size + 1 + 1, 2, none⟩ (.int .u64 (gB A B now cap v))) = W2 := ⟨_, rfl⟩
    obtain ⟨d0, d1, d2, e0, e1, e2, hx⟩ := set3 (w0 := w) (.int .u8 (gK 1 A B now cap v)) (.int .u64 (gA A B now cap v)) (.int .u64 (gB A B now cap v)) t0 t1 t2 g0 g1 g2 ((((Ext.refl w).alloc _).alloc _).alloc _ |>.trans hb) (by omega) W2 eW
    obtain ⟨oc, of⟩ := other3 (b := w.heap.size + 1) (by omega) (.int .u8 (gK 1 A B now cap v)) (.int .u64 (gA A B now cap v)) (.int .u64 (gB A B now cap v)) W2 eW
    rw [eW]
    obtain ⟨W3, eX⟩ : ∃ W3, (((W2.setCell ⟨w.heap.size + 1, 0, none⟩ (.int .u8 (gK 1 A B now cap v))).setCell ⟨w.heap.size + 1, 1, none⟩ (.int .u64 (gA A B now cap v))).setCell ⟨w.heap.size + 1, 2, none⟩ (.int .u64 (gB A B now cap v))) = W3 := ⟨_, rfl⟩
    obtain ⟨d0, d1, d2, e0, e1, e2, hx⟩ := set3 (w0 := w) (.int .u8 (gK 1 A B now cap v)) (.int .u64 (gA A B now cap v)) (.int .u64 (gB A B now cap v)) ((oc 0).trans c0) ((oc 1).trans c1) ((oc 2).trans c2) ((of 0).trans f0) ((of 1).trans f1) ((of 2).trans f2) hx (by omega) W3 eX
    rw [eX]
    clear eX eW c0 c1 c2 f0 f1 f2 t0 t1 t2 g0 g1 g2
    exact bodyPost_ret (v := .tuple #[.agg #[.int .u8 (gK 1 A B now cap v), .int .u64 (gA A B now cap v), .int .u64 (gB A B now cap v)], .bool (gok A B now cap v)]) (by simp [results, Try.results59, go_sem, d0, d1, d2]) rfl ⟨rfl, by repeat (first | exact Ext.refl _ | assumption | apply Ext.drew | apply Ext.alloc | (refine Ext.setCell ?_ (by simp <;> omega) _) | refine Ext.trans ?_ (by assumption))⟩
  · rw [dK_2, dA_2, dB_2, dok_2]
    go_enter Try.func59, Try.ntmps59
    go_wp2_with fail
    refine (r5Decide 2 A B now cap v hA hB hn hc hv _).mono ?_
    rintro e w1 ⟨rfl, hb⟩
    have c0 : w1.cell? ⟨w.heap.size + 1, 0, none⟩ = some (.int .u8 0) := hb.reads (by go_simp)
    have c1 : w1.cell? ⟨w.heap.size + 1, 1, none⟩ = some (.int .u64 0) := hb.reads (by go_simp)
    have c2 : w1.cell? ⟨w.heap.size + 1, 2, none⟩ = some (.int .u64 0) := hb.reads (by go_simp)
    have f0 : w1.frozen? ⟨w.heap.size + 1, 0, none⟩ = false := hb.free (v := .int .u8 0) (by go_simp) (by go_simp)
    have f1 : w1.frozen? ⟨w.heap.size + 1, 1, none⟩ = false := hb.free (v := .int .u64 0) (by go_simp) (by go_simp)
    have f2 : w1.frozen? ⟨w.heap.size + 1, 2, none⟩ = false := hb.free (v := .int .u64 0) (by go_simp) (by go_simp)
    have t0 : w1.cell? ⟨w.heap.size + 2, 0, none⟩ = some (.int .u8 2) := hb.reads (by go_simp)
    have t1 : w1.cell? ⟨w.heap.size + 2, 1, none⟩ = some (.int .u64 A) := hb.reads (by go_simp)
    have t2 : w1.cell? ⟨w.heap.size + 2, 2, none⟩ = some (.int .u64 B) := hb.reads (by go_simp)
    have g0 : w1.frozen? ⟨w.heap.size + 2, 0, none⟩ = false := hb.free (v := .int .u8 2) (by go_simp) (by go_simp)
    have g1 : w1.frozen? ⟨w.heap.size + 2, 1, none⟩ = false := hb.free (v := .int .u64 A) (by go_simp) (by go_simp)
    have g2 : w1.frozen? ⟨w.heap.size + 2, 2, none⟩ = false := hb.free (v := .int .u64 B) (by go_simp) (by go_simp)
    go_wp2
    obtain ⟨W2, eW⟩ : ∃ W2, (((w1.setCell ⟨w.heap.size + 1 + 1, 0, none⟩ (.int .u8 (bK 2 A B now cap v))).setCell ⟨w.heap.size + 1 + 1, 1, none⟩ (.int .u64 (bA A B now cap v))).setCell ⟨w.heap.size + 1 + 1, 2, none⟩ (.int .u64 (bB A B now cap v))) = W2 := ⟨_, rfl⟩
    obtain ⟨d0, d1, d2, e0, e1, e2, hx⟩ := set3 (w0 := w) (.int .u8 (bK 2 A B now cap v)) (.int .u64 (bA A B now cap v)) (.int .u64 (bB A B now cap v)) t0 t1 t2 g0 g1 g2 ((((Ext.refl w).alloc _).alloc _).alloc _ |>.trans hb) (by omega) W2 eW
    obtain ⟨oc, of⟩ := other3 (b := w.heap.size + 1) (by omega) (.int .u8 (bK 2 A B now cap v)) (.int .u64 (bA A B now cap v)) (.int .u64 (bB A B now cap v)) W2 eW
    rw [eW]
    obtain ⟨W3, eX⟩ : ∃ W3, (((W2.setCell ⟨w.heap.size + 1, 0, none⟩ (.int .u8 (bK 2 A B now cap v))).setCell ⟨w.heap.size + 1, 1, none⟩ (.int .u64 (bA A B now cap v))).setCell ⟨w.heap.size + 1, 2, none⟩ (.int .u64 (bB A B now cap v))) = W3 := ⟨_, rfl⟩
    obtain ⟨d0, d1, d2, e0, e1, e2, hx⟩ := set3 (w0 := w) (.int .u8 (bK 2 A B now cap v)) (.int .u64 (bA A B now cap v)) (.int .u64 (bB A B now cap v)) ((oc 0).trans c0) ((oc 1).trans c1) ((oc 2).trans c2) ((of 0).trans f0) ((of 1).trans f1) ((of 2).trans f2) hx (by omega) W3 eX
    rw [eX]
    clear eX eW c0 c1 c2 f0 f1 f2 t0 t1 t2 g0 g1 g2
    exact bodyPost_ret (v := .tuple #[.agg #[.int .u8 (bK 2 A B now cap v), .int .u64 (bA A B now cap v), .int .u64 (bB A B now cap v)], .bool (bok A B now cap v)]) (by simp [results, Try.results59, go_sem, d0, d1, d2]) rfl ⟨rfl, by repeat (first | exact Ext.refl _ | assumption | apply Ext.drew | apply Ext.alloc | (refine Ext.setCell ?_ (by simp <;> omega) _) | refine Ext.trans ?_ (by assumption))⟩
  · rw [dK_3, dA_3, dB_3, dok_3]
    go_enter Try.func59, Try.ntmps59
    go_wp2_with fail
    refine (r4Decide 3 A B now cap v hA hB hn hc hv _).mono ?_
    rintro e w1 ⟨rfl, hb⟩
    have c0 : w1.cell? ⟨w.heap.size + 1, 0, none⟩ = some (.int .u8 0) := hb.reads (by go_simp)
    have c1 : w1.cell? ⟨w.heap.size + 1, 1, none⟩ = some (.int .u64 0) := hb.reads (by go_simp)
    have c2 : w1.cell? ⟨w.heap.size + 1, 2, none⟩ = some (.int .u64 0) := hb.reads (by go_simp)
    have f0 : w1.frozen? ⟨w.heap.size + 1, 0, none⟩ = false := hb.free (v := .int .u8 0) (by go_simp) (by go_simp)
    have f1 : w1.frozen? ⟨w.heap.size + 1, 1, none⟩ = false := hb.free (v := .int .u64 0) (by go_simp) (by go_simp)
    have f2 : w1.frozen? ⟨w.heap.size + 1, 2, none⟩ = false := hb.free (v := .int .u64 0) (by go_simp) (by go_simp)
    have t0 : w1.cell? ⟨w.heap.size + 2, 0, none⟩ = some (.int .u8 3) := hb.reads (by go_simp)
    have t1 : w1.cell? ⟨w.heap.size + 2, 1, none⟩ = some (.int .u64 A) := hb.reads (by go_simp)
    have t2 : w1.cell? ⟨w.heap.size + 2, 2, none⟩ = some (.int .u64 B) := hb.reads (by go_simp)
    have g0 : w1.frozen? ⟨w.heap.size + 2, 0, none⟩ = false := hb.free (v := .int .u8 3) (by go_simp) (by go_simp)
    have g1 : w1.frozen? ⟨w.heap.size + 2, 1, none⟩ = false := hb.free (v := .int .u64 A) (by go_simp) (by go_simp)
    have g2 : w1.frozen? ⟨w.heap.size + 2, 2, none⟩ = false := hb.free (v := .int .u64 B) (by go_simp) (by go_simp)
    go_wp2
    obtain ⟨W2, eW⟩ : ∃ W2, (((w1.setCell ⟨w.heap.size + 1 + 1, 0, none⟩ (.int .u8 (lK 3 A B now cap v))).setCell ⟨w.heap.size + 1 + 1, 1, none⟩ (.int .u64 (lA A B now cap v))).setCell ⟨w.heap.size + 1 + 1, 2, none⟩ (.int .u64 (lB A B now cap v))) = W2 := ⟨_, rfl⟩
    obtain ⟨d0, d1, d2, e0, e1, e2, hx⟩ := set3 (w0 := w) (.int .u8 (lK 3 A B now cap v)) (.int .u64 (lA A B now cap v)) (.int .u64 (lB A B now cap v)) t0 t1 t2 g0 g1 g2 ((((Ext.refl w).alloc _).alloc _).alloc _ |>.trans hb) (by omega) W2 eW
    obtain ⟨oc, of⟩ := other3 (b := w.heap.size + 1) (by omega) (.int .u8 (lK 3 A B now cap v)) (.int .u64 (lA A B now cap v)) (.int .u64 (lB A B now cap v)) W2 eW
    rw [eW]
    obtain ⟨W3, eX⟩ : ∃ W3, (((W2.setCell ⟨w.heap.size + 1, 0, none⟩ (.int .u8 (lK 3 A B now cap v))).setCell ⟨w.heap.size + 1, 1, none⟩ (.int .u64 (lA A B now cap v))).setCell ⟨w.heap.size + 1, 2, none⟩ (.int .u64 (lB A B now cap v))) = W3 := ⟨_, rfl⟩
    obtain ⟨d0, d1, d2, e0, e1, e2, hx⟩ := set3 (w0 := w) (.int .u8 (lK 3 A B now cap v)) (.int .u64 (lA A B now cap v)) (.int .u64 (lB A B now cap v)) ((oc 0).trans c0) ((oc 1).trans c1) ((oc 2).trans c2) ((of 0).trans f0) ((of 1).trans f1) ((of 2).trans f2) hx (by omega) W3 eX
    rw [eX]
    clear eX eW c0 c1 c2 f0 f1 f2 t0 t1 t2 g0 g1 g2
    exact bodyPost_ret (v := .tuple #[.agg #[.int .u8 (lK 3 A B now cap v), .int .u64 (lA A B now cap v), .int .u64 (lB A B now cap v)], .bool (lok A B now cap v)]) (by simp [results, Try.results59, go_sem, d0, d1, d2]) rfl ⟨rfl, by repeat (first | exact Ext.refl _ | assumption | apply Ext.drew | apply Ext.alloc | (refine Ext.setCell ?_ (by simp <;> omega) _) | refine Ext.trans ?_ (by assumption))⟩
  · rw [dK_0 _ _ _ _ _ h1 h2 h3, dA_0 _ _ _ _ _ h1 h2 h3, dB_0 _ _ _ _ _ h1 h2 h3, dok_0 _ _ _ _ _ h1 h2 h3]
    have b1 := beq_false_of_ne h1
    have b2 := beq_false_of_ne h2
    have b3 := beq_false_of_ne h3
    go_enter Try.func59, Try.ntmps59
    go_wp2
    exact bodyPost_ret (v := .tuple #[.agg #[.int .u8 k, .int .u64 A, .int .u64 B], .bool false]) (by simp [results, Try.results59, go_sem]) rfl ⟨rfl, by repeat (first | exact Ext.refl _ | assumption | apply Ext.drew | apply Ext.alloc | (refine Ext.setCell ?_ (by simp <;> omega) _) | refine Ext.trans ?_ (by assumption))⟩

end Go.Proofs.Ytfabgfenelaheaa
