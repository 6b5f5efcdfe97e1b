/- Contracts of the layer gcra, and of its reference. -/
import Derived.Test.YtdgcgpapcbjfhaaGreatDoorJ02Bucket
import Derived.Test.YtdgcgpapcbjfhaaGreatDoorJ01SpecK
import Derived.RegionTactic
import Derived.Deep.RegionHeld3
set_option linter.unusedVariables false
set_option linter.unusedSimpArgs false

/- Contracts of the layer gcra, and of its reference. -/
namespace Go.Proofs.YtdgcgpapcbjfhaaGreatDoor
open Go.RowKit

attribute [local go_sem] ite_min ite_max

theorem wp_scope_once {P : Program} {a : Act} {w : World} {Q : Exit → Act → World → Prop} {c rest : Code} (l : Nat) (hf : findLabel c l = some rest)
    (first : c.wp P (Exit.jump l (fun a' w' => rest.wp P (Exit.noGoto Q) a' w') Q) a w) : (Code.scope c).wp P Q a w :=
  wp_scope_jumps l _ (fun _ _ => 0) hf first fun a' w' h => wp_mono h fun e a'' w'' hq => by
    cases e <;> first | exact hq | exact (hq : False).elim

theorem set3 {w0 w1 : World} {b : Nat} {x0 y0 z0 : Value} (x y z : Value) (c0 : w1.cell? ⟨b, 0, none⟩ = some x0) (c1 : w1.cell? ⟨b, 1, none⟩ = some y0) (c2 : w1.cell? ⟨b, 2, none⟩ = some z0)
    (f0 : w1.frozen? ⟨b, 0, none⟩ = false) (f1 : w1.frozen? ⟨b, 1, none⟩ = false) (f2 : w1.frozen? ⟨b, 2, none⟩ = false) (h : Ext w0 w1) (hb : w0.heap.size ≤ b) :
    ∀ W, ((w1.setCell ⟨b, 0, none⟩ x).setCell ⟨b, 1, none⟩ y).setCell ⟨b, 2, none⟩ z = W → W.cell? ⟨b, 0, none⟩ = some x ∧ W.cell? ⟨b, 1, none⟩ = some y ∧ W.cell? ⟨b, 2, none⟩ = some z ∧
      W.frozen? ⟨b, 0, none⟩ = false ∧ W.frozen? ⟨b, 1, none⟩ = false ∧ W.frozen? ⟨b, 2, none⟩ = false ∧ Ext w0 W := by
  rintro W rfl
  have n01 : (⟨b, 1, none⟩ : Addr) ≠ ⟨b, 0, none⟩ := by simp
  have n02 : (⟨b, 2, none⟩ : Addr) ≠ ⟨b, 0, none⟩ := by simp
  have n12 : (⟨b, 2, none⟩ : Addr) ≠ ⟨b, 1, none⟩ := by simp
  refine ⟨?_, ?_, ?_, ?_, ?_, ?_, ?_⟩
  · rw [World.cell?_setCell_other (h := n02), World.cell?_setCell_other (h := n01), World.cell?_setCell_same (h := c0)]
  · rw [World.cell?_setCell_other (h := n12)]
    exact World.cell?_setCell_same _ _ _ (u := y0) (by rw [World.cell?_setCell_other (h := Ne.symm n01)]; exact c1)
  · exact World.cell?_setCell_same _ _ _ (u := z0) (by rw [World.cell?_setCell_other (h := Ne.symm n12), World.cell?_setCell_other (h := Ne.symm n02)]; exact c2)
  · simpa using f0
  · simpa using f1
  · simpa using f2
  · exact ((h.setCell (by simpa using hb) _).setCell (by simpa using hb) _).setCell (by simpa using hb) _

theorem gOf (now cap fill : Int) (hn : U now) (hf : U fill) (w : World) :
    Calls Tryz.prog 197 #[.int .u64 now, .int .u64 cap, .int .u64 fill] w fun e w' =>
      e = .returned (.agg #[.int .u8 1, .int .u64 (uadd now fill), .int .u64 0]) ∧ Ext w w' := by
  go_enter Tryz.func197, Tryz.ntmps197
  go_wp2_with fail
  refine (nAdd2 now fill _ _ hn hf _ ?_ ?_).mono ?_
  · go_simp
  · go_simp
  rintro e w' ⟨rfl, rfl⟩
  go_wp2
  exact bodyPost_ret (v := .agg #[.int .u8 1, .int .u64 (uadd now fill), .int .u64 0]) (by simp [results, Tryz.results197, go_sem]) rfl ⟨rfl, by repeat (first | exact Ext.refl _ | assumption | apply Ext.drew | apply Ext.alloc | (refine Ext.setCell ?_ (by simp <;> omega) _) | refine Ext.trans ?_ (by assumption))⟩

theorem gFill (k A B now cap : Int) (hA : U A) (hB : U B) (hn : U now) (w : World) :
    Calls Tryz.prog 198 #[.agg #[.int .u8 k, .int .u64 A, .int .u64 B], .int .u64 now, .int .u64 cap] w fun e w' =>
      e = .returned (.int .u64 (usub A now)) ∧ Ext w w' := by
  go_enter Tryz.func198, Tryz.ntmps198
  go_wp2_with fail
  refine (nSub _ _ hA hn _).mono ?_
  rintro e w1 ⟨rfl, rfl⟩
  go_wp2
  go_ret
  exact ⟨rfl, by repeat (first | exact Ext.refl _ | assumption | apply Ext.drew | apply Ext.alloc | (refine Ext.setCell ?_ (by simp <;> omega) _) | refine Ext.trans ?_ (by assumption))⟩

set_option maxHeartbeats 400000 in
theorem gDecide (k A B now cap v : Int) (hA : U A) (hB : U B) (hn : U now) (hc : U cap) (hv : U v) (w : World) :
    Calls Tryz.prog 199 #[.agg #[.int .u8 k, .int .u64 A, .int .u64 B], .int .u64 now, .int .u64 cap, .int .u64 v] w fun e w' =>
      e = .returned (.tuple #[.agg #[.int .u8 (gK k A B now cap v), .int .u64 (gA A B now cap v), .int .u64 (gB A B now cap v)], .bool (gok A B now cap v)]) ∧ Ext w w' := by
  obtain ⟨hA1, hA2⟩ := hA
  obtain ⟨hn1, hn2⟩ := hn
  obtain ⟨hv1, hv2⟩ := hv
  obtain ⟨hc1, hc2⟩ := hc
  by_cases hle : max A now - now + v ≤ cap
  · have hfit : fits (max A now - now) v cap = true := decide_eq_true hle
    have e1 : gK k A B now cap v = 1 := if_pos hle
    have e2 : gA A B now cap v = uadd (max A now) v := if_pos hle
    have e3 : gB A B now cap v = 0 := if_pos hle
    have e4 : gok A B now cap v = true := hfit
    rw [e1, e2, e3, e4]
    have HFT := Lib.hid hfit
    clear e1 e2 e3 e4 hfit
    go_enter Tryz.func199, Tryz.ntmps199
    go_wp2_with fail
    go_step3
    go_wp2_with fail
    refine (nFits (max A now - now) v cap (by unfold U; omega) ⟨hv1, hv2⟩ ⟨hc1, hc2⟩ _).mono ?_
    rintro e w2 ⟨rfl, rfl⟩
    rw [HFT.out]
    go_wp2_with fail
    refine (gOf (max A now) cap v (by unfold U; omega) ⟨hv1, hv2⟩ _).mono ?_
    rintro e w1 ⟨rfl, hb⟩
    have c0 : w1.cell? ⟨w.heap.size + 1, 0, none⟩ = some (.int .u8 k) := hb.reads (by go_simp)
    have c1 : w1.cell? ⟨w.heap.size + 1, 1, none⟩ = some (.int .u64 A) := hb.reads (by go_simp)
    have c2 : w1.cell? ⟨w.heap.size + 1, 2, none⟩ = some (.int .u64 B) := hb.reads (by go_simp)
    have f0 : w1.frozen? ⟨w.heap.size + 1, 0, none⟩ = false := hb.free (v := .int .u8 k) (by go_simp) (by go_simp)
    have f1 : w1.frozen? ⟨w.heap.size + 1, 1, none⟩ = false := hb.free (v := .int .u64 A) (by go_simp) (by go_simp)
    have f2 : w1.frozen? ⟨w.heap.size + 1, 2, none⟩ = false := hb.free (v := .int .u64 B) (by go_simp) (by go_simp)
    go_wp2
    obtain ⟨W2, eW⟩ : ∃ W2, ((w1.setCell ⟨w.heap.size + 1, 0, none⟩ (.int .u8 1)).setCell ⟨w.heap.size + 1, 1, none⟩ (.int .u64 (uadd (max A now) v))).setCell ⟨w.heap.size + 1, 2, none⟩ (.int .u64 0) = W2 := ⟨_, rfl⟩
    obtain ⟨d0, d1, d2, g0, g1, g2, hx⟩ := set3 (w0 := w) (.int .u8 1) (.int .u64 (uadd (max A now) v)) (.int .u64 0) c0 c1 c2 f0 f1 f2 (((Ext.refl w).alloc _).alloc _ |>.trans hb) (by omega) W2 eW
    rw [eW]
    clear c0 c1 c2 f0 f1 f2 hb eW
    go_step3
    go_wp2
    rw [Exit.noGoto_ret]
    exact bodyPost_ret (v := .tuple #[.agg #[.int .u8 1, .int .u64 (uadd (max A now) v), .int .u64 0], .bool true]) (by simp [results, Tryz.results199, go_sem, d0, d1, d2]) rfl ⟨rfl, by repeat (first | exact Ext.refl _ | assumption | apply Ext.drew | apply Ext.alloc | (refine Ext.setCell ?_ (by simp <;> omega) _) | refine Ext.trans ?_ (by assumption))⟩
  · have hfit : fits (max A now - now) v cap = false := decide_eq_false hle
    have e1 : gK k A B now cap v = k := if_neg hle
    have e2 : gA A B now cap v = A := if_neg hle
    have e3 : gB A B now cap v = B := if_neg hle
    have e4 : gok A B now cap v = false := hfit
    rw [e1, e2, e3, e4]
    have HFT := Lib.hid hfit
    clear e1 e2 e3 e4 hfit
    go_enter Tryz.func199, Tryz.ntmps199
    go_wp2_with fail
    refine wp_scope_once 0 rfl ?_
    go_wp2_with fail
    refine (nFits (max A now - now) v cap (by unfold U; omega) ⟨hv1, hv2⟩ ⟨hc1, hc2⟩ _).mono ?_
    rintro e w2 ⟨rfl, rfl⟩
    rw [HFT.out]
    go_wp2
    refine wp_goto ?_
    refine ⟨rfl, ?_⟩
    go_wp2
    rw [Exit.noGoto_ret]
    exact bodyPost_ret (v := .tuple #[.agg #[.int .u8 k, .int .u64 A, .int .u64 B], .bool false]) (by simp [results, Tryz.results199, go_sem]) rfl ⟨rfl, by repeat (first | exact Ext.refl _ | assumption | apply Ext.drew | apply Ext.alloc | (refine Ext.setCell ?_ (by simp <;> omega) _) | refine Ext.trans ?_ (by assumption))⟩

theorem gOf' (now cap fill : Int) (hn : U now) (hc : U cap) (hf : U fill) (w : World) :
    Calls Tryz.prog 197 #[.int .u64 now, .int .u64 cap, .int .u64 fill] w fun e w' => e = .returned (.agg #[.int .u8 1, .int .u64 (uadd now fill), .int .u64 0]) ∧ Ext w w' := gOf now cap fill hn hf w

theorem gFill' (k A B now cap : Int) (hA : U A) (hB : U B) (hn : U now) (hc : U cap) (w : World) :
    Calls Tryz.prog 198 #[.agg #[.int .u8 k, .int .u64 A, .int .u64 B], .int .u64 now, .int .u64 cap] w fun e w' => e = .returned (.int .u64 (gfil A B now cap)) ∧ Ext w w' := gFill k A B now cap hA hB hn w

end Go.Proofs.YtdgcgpapcbjfhaaGreatDoor
