/- Contracts of the layer kernel: Fill and Decide of any kind; Until, Left, Wait, Migrate. -/
import Derived.Test.YtdgcgpapcbjfhaaGreatDoorJ40KernelD
import Derived.Test.YtdgcgpapcbjfhaaGreatDoorJ07NumMore
import Derived.RegionTactic
import Derived.Deep.RegionHeld3
import Derived.Deep.QuietTactic
import Derived.BigQuiet
set_option linter.unusedVariables false
set_option linter.unusedSimpArgs false

/- Contracts of the layer kernel: Fill and Decide of any kind; Until, Left, Wait, Migrate. -/
namespace Go.Proofs.YtdgcgpapcbjfhaaGreatDoor
open Go.RowKit

attribute [local go_sem] ite_min ite_max

theorem kFill (k A B now cap : Int) (hA : U A) (hB : U B) (hn : U now) (hc : U cap) (w : World) :
    Calls Tryz.prog 130 #[.agg #[.int .u8 k, .int .u64 A, .int .u64 B], .int .u64 now, .int .u64 cap] w fun e w' =>
      e = .returned (.int .u64 (fil k A B now cap)) ∧ Ext w w' := by
  rcases kcase k with rfl | rfl | rfl | ⟨h1, h2, h3⟩
  · exact kFill1 A B now cap hA hB hn hc w
  · exact kFill2 A B now cap hA hB hn hc w
  · exact kFill3 A B now cap hA hB hn hc w
  · rw [fil_0 _ _ _ _ h1 h2 h3]; exact kFill0 k h1 h2 h3 A B now cap hA hB hn hc w

theorem kDecide (k A B now cap v : Int) (hA : U A) (hB : U B) (hn : U now) (hc : U cap) (hv : U v) (w : World) :
    Calls Tryz.prog 128 #[.agg #[.int .u8 k, .int .u64 A, .int .u64 B], .int .u64 now, .int .u64 cap, .int .u64 v] w fun e w' =>
      e = .returned (.tuple #[.agg #[.int .u8 (dK k A B now cap v), .int .u64 (dA k A B now cap v), .int .u64 (dB k A B now cap v)], .bool (dok k A B now cap v)]) ∧ Ext w w' := by
  rcases kcase k with rfl | rfl | rfl | ⟨h1, h2, h3⟩
  · exact kDecide1 A B now cap v hA hB hn hc hv w
  · exact kDecide2 A B now cap v hA hB hn hc hv w
  · exact kDecide3 A B now cap v hA hB hn hc hv w
  · rw [dK_0 _ _ _ _ _ h1 h2 h3, dA_0 _ _ _ _ _ h1 h2 h3, dB_0 _ _ _ _ _ h1 h2 h3, dok_0 _ _ _ _ _ h1 h2 h3]; exact kDecide0 k h1 h2 h3 A B now cap v hA hB hn hc hv w

theorem kUntil (k A B now cap : Int) (hA : U A) (hB : U B) (hn : U now) (hc : U cap) (w : World) :
    Calls Tryz.prog 182 #[.agg #[.int .u8 k, .int .u64 A, .int .u64 B], .int .u64 now, .int .u64 cap] w fun e w' =>
      e = .returned (.int .u64 (until' k A B now cap)) ∧ Ext w w' := by
  have hF := fil_U k hA hB hn hc
  have hu : until' k A B now cap = if fil k A B now cap > 0 then uadd now (fil k A B now cap) else 0 := rfl
  rw [hu]; clear hu
  obtain ⟨F, eF⟩ : ∃ F, fil k A B now cap = F := ⟨_, rfl⟩
  rw [eF] at hF ⊢
  have HF := Lib.hid eF
  clear eF
  by_cases h : F > 0
  · rw [if_pos h]
    go_enter Tryz.func182, Tryz.ntmps182
    go_wp2_with fail
    refine (kFill k A B now cap hA hB hn hc _).mono ?_
    rw [HF.out]
    rintro e w1 ⟨rfl, hb⟩
    go_wp2_with fail
    refine (nAdd2 now F _ _ hn hF _ (by go_simp) (by go_simp)).mono ?_
    rintro e w2 ⟨rfl, rfl⟩
    go_wp2
    go_ret
    exact ⟨rfl, by repeat (first | exact Ext.refl _ | assumption | apply Ext.drew | apply Ext.alloc | (refine Ext.setCell ?_ (by simp <;> omega) _) | refine Ext.trans ?_ (by assumption))⟩
  · rw [if_neg h]
    go_enter Tryz.func182, Tryz.ntmps182
    go_wp2_with fail
    refine (kFill k A B now cap hA hB hn hc _).mono ?_
    rw [HF.out]
    rintro e w1 ⟨rfl, hb⟩
    go_wp2
    go_ret
    exact ⟨rfl, by repeat (first | exact Ext.refl _ | assumption | apply Ext.drew | apply Ext.alloc | (refine Ext.setCell ?_ (by simp <;> omega) _) | refine Ext.trans ?_ (by assumption))⟩

theorem kLeft (k A B now cap every : Int) (hA : U A) (hB : U B) (hn : U now) (hc : U cap) (he : U every) (w : World) :
    Calls Tryz.prog 129 #[.agg #[.int .u8 k, .int .u64 A, .int .u64 B], .int .u64 now, .int .u64 cap, .int .u64 every] w fun e w' =>
      e = .returned (.int .u64 (udiv (usub cap (fil k A B now cap)) every)) ∧ Ext w w' := by
  have hF := fil_U k hA hB hn hc
  have hS := usub_U hc hF
  go_enter Tryz.func129, Tryz.ntmps129
  go_wp2_with fail
  refine (kFill k A B now cap hA hB hn hc _).mono ?_
  rintro e w1 ⟨rfl, hb⟩
  go_wp2_with fail
  refine (nSub _ _ hc hF _).mono ?_
  rintro e w2 ⟨rfl, rfl⟩
  go_wp2_with fail
  refine (nDiv _ _ hS he _).mono ?_
  rintro e w2 ⟨rfl, rfl⟩
  go_wp2
  go_ret
  exact ⟨rfl, by repeat (first | exact Ext.refl _ | assumption | apply Ext.drew | apply Ext.alloc | (refine Ext.setCell ?_ (by simp <;> omega) _) | refine Ext.trans ?_ (by assumption))⟩

theorem kWait (k A B now cap v : Int) (hA : U A) (hB : U B) (hn : U now) (hc : U cap) (hv : U v) (w : World) :
    Calls Tryz.prog 126 #[.agg #[.int .u8 k, .int .u64 A, .int .u64 B], .int .u64 now, .int .u64 cap, .int .u64 v] w fun e w' =>
      e = .returned (.tuple #[.int .u64 (wD k A B now cap v), .bool (wOk k A B now cap v)]) ∧ Ext w w' := by
  have hF := fil_U k hA hB hn hc
  have e1 : wD k A B now cap v = if v > cap then 0 else if fits (fil k A B now cap) v cap = true then 0 else fil k A B now cap - (cap - v) := rfl
  have e2 : wOk k A B now cap v = if v > cap then false else !fits (fil k A B now cap) v cap := rfl
  rw [e1, e2]; clear e1 e2
  obtain ⟨F, eF⟩ : ∃ F, fil k A B now cap = F := ⟨_, rfl⟩
  rw [eF] at hF ⊢
  have HF := Lib.hid eF
  clear eF
  have hF' := hF
  have hc' := hc
  have hv' := hv
  obtain ⟨hF1, hF2⟩ := hF'
  obtain ⟨hc1, hc2⟩ := hc'
  obtain ⟨hv1, hv2⟩ := hv'
  by_cases h : v > cap
  · rw [if_pos h, if_pos h]
    go_enter Tryz.func126, Tryz.ntmps126
    go_wp2_with fail
    refine (kFill k A B now cap hA hB hn hc _).mono ?_
    rw [HF.out]
    rintro e w1 ⟨rfl, hb⟩
    go_wp2
    go_ret2
    exact ⟨rfl, by repeat (first | exact Ext.refl _ | assumption | apply Ext.drew | apply Ext.alloc | (refine Ext.setCell ?_ (by simp <;> omega) _) | refine Ext.trans ?_ (by assumption))⟩
  · rw [if_neg h, if_neg h]
    by_cases hf : fits F v cap = true
    · rw [if_pos hf]
      rw [hf]
      have Hf := Lib.hid hf; clear hf
      go_enter Tryz.func126, Tryz.ntmps126
      go_wp2_with fail
      refine (kFill k A B now cap hA hB hn hc _).mono ?_
      rw [HF.out]
      rintro e w1 ⟨rfl, hb⟩
      go_wp2_with fail
      refine (nFits F v cap hF hv hc _).mono ?_
      rw [Hf.out]
      rintro e w2 ⟨rfl, rfl⟩
      go_wp2
      go_ret2
      exact ⟨rfl, by repeat (first | exact Ext.refl _ | assumption | apply Ext.drew | apply Ext.alloc | (refine Ext.setCell ?_ (by simp <;> omega) _) | refine Ext.trans ?_ (by assumption))⟩
    · rw [if_neg hf]
      have hf' : fits F v cap = false := by simpa using hf
      have hlt : ¬ F + v ≤ cap := of_decide_eq_false hf'
      rw [hf']
      have Hf := Lib.hid hf'; clear hf hf'
      go_enter Tryz.func126, Tryz.ntmps126
      go_wp2_with fail
      refine (kFill k A B now cap hA hB hn hc _).mono ?_
      rw [HF.out]
      rintro e w1 ⟨rfl, hb⟩
      go_wp2_with fail
      refine (nFits F v cap hF hv hc _).mono ?_
      rw [Hf.out]
      rintro e w2 ⟨rfl, rfl⟩
      go_wp2
      go_ret2
      exact ⟨rfl, by repeat (first | exact Ext.refl _ | assumption | apply Ext.drew | apply Ext.alloc | (refine Ext.setCell ?_ (by simp <;> omega) _) | refine Ext.trans ?_ (by assumption))⟩

theorem kMigrate (k A B to now cap : Int) (hA : U A) (hB : U B) (hn : U now) (hc : U cap) (w : World) :
    Calls Tryz.prog 169 #[.agg #[.int .u8 k, .int .u64 A, .int .u64 B], .int .u8 to, .int .u64 now, .int .u64 cap] w fun e w' =>
      e = .returned (.tuple #[.agg #[.int .u8 (mK k to), .int .u64 (mA k A B to now cap), .int .u64 (mB k to now)], .int .u16 (mE k to)]) ∧ Ext w w' := by
  have hF := fil_U k hA hB hn hc
  by_cases h : isK k = true
  · have e1 : mK k to = oK to := if_pos h
    have e2 : mA k A B to now cap = oA to now cap (fil k A B now cap) := if_pos h
    have e3 : mB k to now = oB to now := if_pos h
    have e4 : mE k to = oE to := if_pos h
    rw [e1, e2, e3, e4]
    have H := Lib.hid h
    clear e1 e2 e3 e4 h
    go_enter Tryz.func169, Tryz.ntmps169
    go_wp2_with fail
    refine (kIsRight k _).mono ?_
    rw [H.out]
    rintro e w1 ⟨rfl, hb⟩
    have c0 : w1.cell? ⟨w.heap.size + 1, 0, none⟩ = some (.int .u8 0) := hb.reads (by go_simp)
    have c1 : w1.cell? ⟨w.heap.size + 1, 1, none⟩ = some (.int .u64 0) := hb.reads (by go_simp)
    have c2 : w1.cell? ⟨w.heap.size + 1, 2, none⟩ = some (.int .u64 0) := hb.reads (by go_simp)
    have f0 : w1.frozen? ⟨w.heap.size + 1, 0, none⟩ = false := hb.free (v := .int .u8 0) (by go_simp) (by go_simp)
    have f1 : w1.frozen? ⟨w.heap.size + 1, 1, none⟩ = false := hb.free (v := .int .u64 0) (by go_simp) (by go_simp)
    have f2 : w1.frozen? ⟨w.heap.size + 1, 2, none⟩ = false := hb.free (v := .int .u64 0) (by go_simp) (by go_simp)
    have s0 : w1.cell? ⟨w.heap.size, 0, none⟩ = some (.int .u8 k) := hb.reads (by go_simp)
    have s1 : w1.cell? ⟨w.heap.size, 1, none⟩ = some (.int .u64 A) := hb.reads (by go_simp)
    have s2 : w1.cell? ⟨w.heap.size, 2, none⟩ = some (.int .u64 B) := hb.reads (by go_simp)
    go_wp2_with fail
    refine (kFill k A B now cap hA hB hn hc _).mono ?_
    rintro e w2 ⟨rfl, hb2⟩
    go_wp2_with fail
    refine (kOf to now cap _ hn hc hF _).mono ?_
    rintro e w3 ⟨rfl, hb3⟩
    have c0' := hb3.reads (hb2.reads c0)
    have c1' := hb3.reads (hb2.reads c1)
    have c2' := hb3.reads (hb2.reads c2)
    have f0' := hb3.free (hb2.reads c0) (hb2.free c0 f0)
    have f1' := hb3.free (hb2.reads c1) (hb2.free c1 f1)
    have f2' := hb3.free (hb2.reads c2) (hb2.free c2 f2)
    go_wp2
    exact bodyPost_ret (v := .tuple #[.agg #[.int .u8 (oK to), .int .u64 (oA to now cap (fil k A B now cap)), .int .u64 (oB to now)], .int .u16 (oE to)]) (by simp [results, Tryz.results169, go_sem, c0', c1', c2']) rfl ⟨rfl, by repeat (first | exact Ext.refl _ | assumption | apply Ext.drew | apply Ext.alloc | (refine Ext.setCell ?_ (by simp <;> omega) _) | refine Ext.trans ?_ (by assumption))⟩
  · have e1 : mK k to = 0 := if_neg h
    have e2 : mA k A B to now cap = 0 := if_neg h
    have e3 : mB k to now = 0 := if_neg h
    have e4 : mE k to = 27 := if_neg h
    rw [e1, e2, e3, e4]
    have h' : isK k = false := by simpa using h
    have H := Lib.hid h'
    clear e1 e2 e3 e4 h h'
    go_enter Tryz.func169, Tryz.ntmps169
    go_wp2_with fail
    refine (kIsRight k _).mono ?_
    rw [H.out]
    rintro e w1 ⟨rfl, hb⟩
    have c0 : w1.cell? ⟨w.heap.size + 1, 0, none⟩ = some (.int .u8 0) := hb.reads (by go_simp)
    have c1 : w1.cell? ⟨w.heap.size + 1, 1, none⟩ = some (.int .u64 0) := hb.reads (by go_simp)
    have c2 : w1.cell? ⟨w.heap.size + 1, 2, none⟩ = some (.int .u64 0) := hb.reads (by go_simp)
    have f0 : w1.frozen? ⟨w.heap.size + 1, 0, none⟩ = false := hb.free (v := .int .u8 0) (by go_simp) (by go_simp)
    have f1 : w1.frozen? ⟨w.heap.size + 1, 1, none⟩ = false := hb.free (v := .int .u64 0) (by go_simp) (by go_simp)
    have f2 : w1.frozen? ⟨w.heap.size + 1, 2, none⟩ = false := hb.free (v := .int .u64 0) (by go_simp) (by go_simp)
    go_wp2
    exact bodyPost_ret (v := .tuple #[.agg #[.int .u8 0, .int .u64 0, .int .u64 0], .int .u16 27]) (by simp [results, Tryz.results169, go_sem, c0, c1, c2]) rfl ⟨rfl, by repeat (first | exact Ext.refl _ | assumption | apply Ext.drew | apply Ext.alloc | (refine Ext.setCell ?_ (by simp <;> omega) _) | refine Ext.trans ?_ (by assumption))⟩

end Go.Proofs.YtdgcgpapcbjfhaaGreatDoor
