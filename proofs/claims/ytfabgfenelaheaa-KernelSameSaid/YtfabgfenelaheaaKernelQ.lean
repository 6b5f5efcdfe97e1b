/- Contracts of the reference of the layer kernel: Until, Left, Wait, Migrate; the chapter's example. -/
import Derived.Test.YtfabgfenelaheaaKernelU
import Derived.Test.YtfabgfenelaheaaKernelR
set_option linter.unusedVariables false
namespace Go.Proofs.Ytfabgfenelaheaa
open Go.RowKit

attribute [local go_sem] ite_min ite_max

theorem q7Until (k A B now cap : Int) (hA : U A) (hB : U B) (hn : U now) (hc : U cap) (w : World) :
    Calls Try.prog 64 #[.agg #[.int .u8 k, .int .u64 A, .int .u64 B], .int .u64 now, .int .u64 cap] w fun e w' =>
      e = .returned (.int .u64 (until' k A B now cap)) ∧ Ext w w' := by
  have hF := fil_U k hA hB hn hc
  have hu : until' k A B now cap = if fil k A B now cap > 0 then uadd now (fil k A B now cap) else 0 := rfl
  rw [hu]; clear hu
  obtain ⟨F, eF⟩ : ∃ F, fil k A B now cap = F := ⟨_, rfl⟩
  rw [eF] at hF ⊢
  have HF := Lib.hid eF
  clear eF
  by_cases h : F > 0
  · have hz : (F == 0) = false := by rw [beq_eq_false_iff_ne]; omega
    rw [if_pos h]
    go_enter Try.func64, Try.ntmps64
    go_wp2_with fail
    refine (q7Fill k A B now cap hA hB hn hc _).mono ?_
    rw [HF.out]
    rintro e w1 ⟨rfl, hb⟩
    go_wp2_with fail
    refine (rAdd now F hn hF _).mono ?_
    rintro e w2 ⟨rfl, rfl⟩
    go_wp2
    go_ret
    exact ⟨rfl, by repeat (first | exact Ext.refl _ | assumption | apply Ext.drew | apply Ext.alloc | (refine Ext.setCell ?_ (by simp <;> omega) _) | refine Ext.trans ?_ (by assumption))⟩
  · obtain rfl : F = 0 := by have := hF.1; omega
    rw [if_neg h]
    go_enter Try.func64, Try.ntmps64
    go_wp2_with fail
    refine (q7Fill k A B now cap hA hB hn hc _).mono ?_
    rw [HF.out]
    rintro e w1 ⟨rfl, hb⟩
    go_wp2
    go_ret
    exact ⟨rfl, by repeat (first | exact Ext.refl _ | assumption | apply Ext.drew | apply Ext.alloc | (refine Ext.setCell ?_ (by simp <;> omega) _) | refine Ext.trans ?_ (by assumption))⟩

theorem q7Left (k A B now cap every : Int) (hA : U A) (hB : U B) (hn : U now) (hc : U cap) (he : U every) (w : World) :
    Calls Try.prog 65 #[.agg #[.int .u8 k, .int .u64 A, .int .u64 B], .int .u64 now, .int .u64 cap, .int .u64 every] w fun e w' =>
      e = .returned (.int .u64 (udiv (usub cap (fil k A B now cap)) every)) ∧ Ext w w' := by
  have hF := fil_U k hA hB hn hc
  have hS := usub_U hc hF
  go_enter Try.func65, Try.ntmps65
  go_wp2_with fail
  refine (q7Fill k A B now cap hA hB hn hc _).mono ?_
  rintro e w1 ⟨rfl, hb⟩
  go_wp2_with fail
  refine (rSub _ _ hc hF _).mono ?_
  rintro e w2 ⟨rfl, rfl⟩
  go_wp2_with fail
  refine (r2Div _ _ hS he _).mono ?_
  rintro e w2 ⟨rfl, rfl⟩
  go_wp2
  go_ret
  exact ⟨rfl, by repeat (first | exact Ext.refl _ | assumption | apply Ext.drew | apply Ext.alloc | (refine Ext.setCell ?_ (by simp <;> omega) _) | refine Ext.trans ?_ (by assumption))⟩

theorem q7Wait (k A B now cap v : Int) (hA : U A) (hB : U B) (hn : U now) (hc : U cap) (hv : U v) (w : World) :
    Calls Try.prog 62 #[.agg #[.int .u8 k, .int .u64 A, .int .u64 B], .int .u64 now, .int .u64 cap, .int .u64 v] w fun e w' =>
      e = .returned (.tuple #[.int .u64 (wD k A B now cap v), .bool (wOk k A B now cap v)]) ∧ Ext w w' := by
  have hF := fil_U k hA hB hn hc
  have e1 : wD k A B now cap v = if v > cap then 0 else if fits (fil k A B now cap) v cap = true then 0 else fil k A B now cap - (cap - v) := rfl
  have e2 : wOk k A B now cap v = if v > cap then false else !fits (fil k A B now cap) v cap := rfl
  rw [e1, e2]; clear e1 e2
  obtain ⟨F, eF⟩ : ∃ F, fil k A B now cap = F := ⟨_, rfl⟩
  rw [eF] at hF ⊢
  have HF := Lib.hid eF
  clear eF
  have hF' := hF
  have hc' := hc
  have hv' := hv
  obtain ⟨hF1, hF2⟩ := hF'
  obtain ⟨hc1, hc2⟩ := hc'
  obtain ⟨hv1, hv2⟩ := hv'
  by_cases h : v > cap
  · rw [if_pos h, if_pos h]
    go_enter Try.func62, Try.ntmps62
    go_wp2_with fail
    refine (q7Fill k A B now cap hA hB hn hc _).mono ?_
    rw [HF.out]
    rintro e w1 ⟨rfl, hb⟩
    go_wp2
    go_ret2
    exact ⟨rfl, by repeat (first | exact Ext.refl _ | assumption | apply Ext.drew | apply Ext.alloc | (refine Ext.setCell ?_ (by simp <;> omega) _) | refine Ext.trans ?_ (by assumption))⟩
  · rw [if_neg h, if_neg h]
    by_cases hf : fits F v cap = true
    · rw [if_pos hf]
      rw [hf]
      have Hf := Lib.hid hf; clear hf
      go_enter Try.func62, Try.ntmps62
      go_wp2_with fail
      refine (q7Fill k A B now cap hA hB hn hc _).mono ?_
      rw [HF.out]
      rintro e w1 ⟨rfl, hb⟩
      go_wp2_with fail
      refine (rFits F v cap hF hv hc _).mono ?_
      rw [Hf.out]
      rintro e w2 ⟨rfl, rfl⟩
      go_wp2
      go_ret2
      exact ⟨rfl, by repeat (first | exact Ext.refl _ | assumption | apply Ext.drew | apply Ext.alloc | (refine Ext.setCell ?_ (by simp <;> omega) _) | refine Ext.trans ?_ (by assumption))⟩
    · rw [if_neg hf]
      have hf' : fits F v cap = false := by simpa using hf
      have hlt : ¬ F + v ≤ cap := of_decide_eq_false hf'
      rw [hf']
      have Hf := Lib.hid hf'; clear hf hf'
      go_enter Try.func62, Try.ntmps62
      go_wp2_with fail
      refine (q7Fill k A B now cap hA hB hn hc _).mono ?_
      rw [HF.out]
      rintro e w1 ⟨rfl, hb⟩
      go_wp2_with fail
      refine (rFits F v cap hF hv hc _).mono ?_
      rw [Hf.out]
      rintro e w2 ⟨rfl, rfl⟩
      go_wp2
      go_ret2
      exact ⟨rfl, by repeat (first | exact Ext.refl _ | assumption | apply Ext.drew | apply Ext.alloc | (refine Ext.setCell ?_ (by simp <;> omega) _) | refine Ext.trans ?_ (by assumption))⟩

theorem q7Migrate (k A B to now cap : Int) (hA : U A) (hB : U B) (hn : U now) (hc : U cap) (w : World) :
    Calls Try.prog 61 #[.agg #[.int .u8 k, .int .u64 A, .int .u64 B], .int .u8 to, .int .u64 now, .int .u64 cap] w fun e w' =>
      e = .returned (.tuple #[.agg #[.int .u8 (mK k to), .int .u64 (mA k A B to now cap), .int .u64 (mB k to now)], .int .i64 (mE k to)]) ∧ Ext w w' := by
  have hF := fil_U k hA hB hn hc
  by_cases ht : isK to = true
  · have Ht := Lib.hid ht; clear ht
    by_cases h : isK k = true
    · have e1 : mK k to = oK to := if_pos h
      have e2 : mA k A B to now cap = oA to now cap (fil k A B now cap) := if_pos h
      have e3 : mB k to now = oB to now := if_pos h
      have e4 : mE k to = oE to := if_pos h
      rw [e1, e2, e3, e4]
      have H := Lib.hid h
      clear e1 e2 e3 e4 h
      go_enter Try.func61, Try.ntmps61
      go_wp2_with fail
      refine (q7Right to _).mono ?_
      rw [Ht.out]
      rintro e w1 ⟨rfl, rfl⟩
      go_wp2_with fail
      refine (q7Right k _).mono ?_
      rw [H.out]
      rintro e w1 ⟨rfl, rfl⟩
      go_wp2_with fail
      refine (q7Fill k A B now cap hA hB hn hc _).mono ?_
      rintro e w1 ⟨rfl, hb⟩
      have c0 : w1.cell? ⟨w.heap.size + 1, 0, none⟩ = some (.int .u8 0) := hb.reads (by go_simp)
      have c1 : w1.cell? ⟨w.heap.size + 1, 1, none⟩ = some (.int .u64 0) := hb.reads (by go_simp)
      have c2 : w1.cell? ⟨w.heap.size + 1, 2, none⟩ = some (.int .u64 0) := hb.reads (by go_simp)
      have f0 : w1.frozen? ⟨w.heap.size + 1, 0, none⟩ = false := hb.free (v := .int .u8 0) (by go_simp) (by go_simp)
      have f1 : w1.frozen? ⟨w.heap.size + 1, 1, none⟩ = false := hb.free (v := .int .u64 0) (by go_simp) (by go_simp)
      have f2 : w1.frozen? ⟨w.heap.size + 1, 2, none⟩ = false := hb.free (v := .int .u64 0) (by go_simp) (by go_simp)
      go_wp2_with fail
      refine (q7Of to now cap _ hn hc hF _).mono ?_
      rintro e w3 ⟨rfl, hb3⟩
      have c0' := hb3.reads c0
      have c1' := hb3.reads c1
      have c2' := hb3.reads c2
      have f0' := hb3.free c0 f0
      have f1' := hb3.free c1 f1
      have f2' := hb3.free c2 f2
      have hx : Ext w w3 := by repeat (first | exact Ext.refl _ | assumption | apply Ext.drew | apply Ext.alloc | (refine Ext.setCell ?_ (by simp <;> omega) _) | refine Ext.trans ?_ (by assumption))
      clear hb hb3 c0 c1 c2 f0 f1 f2
      have z : w.heap.size + 1 < w3.heap.size := World.block_lt_of_cell? w3 _ c0'
      go_wp2
      exact bodyPost_ret (v := .tuple #[.agg #[.int .u8 (oK to), .int .u64 (oA to now cap (fil k A B now cap)), .int .u64 (oB to now)], .int .i64 (oE to)]) (by simp [results, Try.results61, go_sem, c0', c1', c2', z]) rfl ⟨rfl, by repeat (first | exact Ext.refl _ | assumption | apply Ext.drew | apply Ext.alloc | (refine Ext.setCell ?_ (by simp <;> omega) _) | refine Ext.trans ?_ (by assumption))⟩
    · have e1 : mK k to = 0 := if_neg h
      have e2 : mA k A B to now cap = 0 := if_neg h
      have e3 : mB k to now = 0 := if_neg h
      have e4 : mE k to = 27 := if_neg h
      rw [e1, e2, e3, e4]
      have h' : isK k = false := by simpa using h
      have H := Lib.hid h'
      clear e1 e2 e3 e4 h h'
      go_enter Try.func61, Try.ntmps61
      go_wp2_with fail
      refine (q7Right to _).mono ?_
      rw [Ht.out]
      rintro e w1 ⟨rfl, rfl⟩
      go_wp2_with fail
      refine (q7Right k _).mono ?_
      rw [H.out]
      rintro e w1 ⟨rfl, rfl⟩
      go_wp2
      exact bodyPost_ret (v := .tuple #[.agg #[.int .u8 0, .int .u64 0, .int .u64 0], .int .i64 27]) (by simp [results, Try.results61, go_sem]) rfl ⟨rfl, by repeat (first | exact Ext.refl _ | assumption | apply Ext.drew | apply Ext.alloc | (refine Ext.setCell ?_ (by simp <;> omega) _) | refine Ext.trans ?_ (by assumption))⟩
  · have ht' : isK to = false := by simpa using ht
    have n1 : to ≠ 1 := by rintro rfl; exact ht rfl
    have n2 : to ≠ 2 := by rintro rfl; exact ht rfl
    have n3 : to ≠ 3 := by rintro rfl; exact ht rfl
    have e1 : mK k to = 0 := by unfold mK; rw [oK_0 n1 n2 n3]; simp
    have e2 : mA k A B to now cap = 0 := by unfold mA; rw [oA_0 _ _ _ n1 n2 n3]; simp
    have e3 : mB k to now = 0 := by unfold mB; rw [oB_0 _ n1 n2 n3]; simp
    have e4 : mE k to = 27 := by unfold mE; rw [oE_0 n1 n2 n3]; simp
    rw [e1, e2, e3, e4]
    have Ht := Lib.hid ht'
    clear e1 e2 e3 e4 ht ht' n1 n2 n3
    go_enter Try.func61, Try.ntmps61
    go_wp2_with fail
    refine (q7Right to _).mono ?_
    rw [Ht.out]
    rintro e w1 ⟨rfl, rfl⟩
    go_wp2
    exact bodyPost_ret (v := .tuple #[.agg #[.int .u8 0, .int .u64 0, .int .u64 0], .int .i64 27]) (by simp [results, Try.results61, go_sem]) rfl ⟨rfl, by repeat (first | exact Ext.refl _ | assumption | apply Ext.drew | apply Ext.alloc | (refine Ext.setCell ?_ (by simp <;> omega) _) | refine Ext.trans ?_ (by assumption))⟩

theorem kKnown (w : World) : Calls Try.prog 31 #[] w fun e w' => e = .returned (.bool true) ∧ Ext w w' := by
  go_enter Try.func31, Try.ntmps31
  go_wp2_with fail
  refine (kMigrate 3 8 5 1 8 10 (by unfold U; omega) (by unfold U; omega) (by unfold U; omega) (by unfold U; omega) _).mono ?_
  rintro e w1 ⟨rfl, hb1⟩
  rw [show mK 3 1 = 1 from by decide, show mA 3 8 5 1 8 10 = 13 from by decide, show mB 3 1 8 = 0 from by decide, show mE 3 1 = 0 from by decide]
  go_wp2_with fail
  refine (kRight 2 _).mono ?_
  rintro e w2 ⟨rfl, hb2⟩
  rw [show isK 2 = true from by decide]
  have z1 : w1.heap.size < w2.heap.size := by have := hb2.size; simp at this; omega
  have s0 : w2.cell? ⟨w1.heap.size, 0, none⟩ = some (.int .u8 1) := hb2.reads (by go_simp)
  have s1 : w2.cell? ⟨w1.heap.size, 1, none⟩ = some (.int .u64 13) := hb2.reads (by go_simp)
  have s2 : w2.cell? ⟨w1.heap.size, 2, none⟩ = some (.int .u64 0) := hb2.reads (by go_simp)
  go_wp2_with fail
  refine (kRight 4 _).mono ?_
  rintro e w3 ⟨rfl, hb3⟩
  rw [show isK 4 = false from by decide]
  have t0 := hb3.reads s0
  have t1 := hb3.reads s1
  have t2 := hb3.reads s2
  go_wp2_with fail
  refine (kLeft 1 13 0 8 10 2 (by unfold U; omega) (by unfold U; omega) (by unfold U; omega) (by unfold U; omega) (by unfold U; omega) _).mono ?_
  rintro e w4 ⟨rfl, hb4⟩
  rw [show udiv (usub 10 (fil 1 13 0 8 10)) 2 = 2 from by decide]
  go_wp2
  go_ret
  exact ⟨rfl, by repeat (first | exact Ext.refl _ | assumption | apply Ext.drew | apply Ext.alloc | (refine Ext.setCell ?_ (by simp <;> omega) _) | refine Ext.trans ?_ (by assumption))⟩

end Go.Proofs.Ytfabgfenelaheaa
