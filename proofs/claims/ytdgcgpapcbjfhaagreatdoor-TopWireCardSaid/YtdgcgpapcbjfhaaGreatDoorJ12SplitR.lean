/- Words of a text, by the reference: all lines. -/
import Derived.Test.YtdgcgpapcbjfhaaGreatDoorJ11Rg
set_option linter.unusedVariables false
set_option linter.unusedSimpArgs false

/- Words of a text, by the reference. -/
namespace Go.Proofs.YtdgcgpapcbjfhaaGreatDoor
open Go.RowKit

theorem rBlank (c : Int) (h0 : 0 ≤ c) (h1 : c ≤ 255) (w : World) :
    Calls Tryz.prog 63 #[.int .u8 c] w fun e w' => e = .returned (.bool (decide (c = 32) || decide (c = 9))) ∧ w = w' := by
  by_cases h32 : c = 32
  · subst h32
    go_enter Tryz.func63, Tryz.ntmps63
    go_wp2
    go_ret
    exact ⟨rfl, rfl⟩
  have e1 : (c == 32) = false := beq_eq_false_iff_ne.2 h32
  by_cases h9 : c = 9
  · subst h9
    go_enter Tryz.func63, Tryz.ntmps63
    go_wp2
    go_ret
    exact ⟨rfl, rfl⟩
  have e2 : (c == 9) = false := beq_eq_false_iff_ne.2 h9
  go_enter Tryz.func63, Tryz.ntmps63
  go_wp2
  go_ret
  exact ⟨ret_bool (by simp [h32, h9]), rfl⟩

/-- between two rounds of a line -/
def lInv (s : List UInt8) (n j : Nat) (ws : List Wd) : Prop :=
  lineW s n j = ws ∧ ((lsc s n j).2 = none ∨ j = s.length ∨ wKind (s.getD j 0) = 1) ∧ (ws = [] ∨ isNote ws = false)

theorem lInv_zero (s : List UInt8) (n : Nat) : lInv s n 0 [] := ⟨rfl, .inl rfl, .inl rfl⟩
theorem lInv_blank {s : List UInt8} {n j : Nat} {ws : List Wd} (h : lInv s n j ws) (hb : wKind (s.getD j 0) = 1) : lInv s n (j + 1) ws := by
  obtain ⟨h1, h2, h3⟩ := h
  have e : lsc s n (j + 1) = (ws, none) := by rw [lsc, if_neg (by rw [hb]; decide)]; rw [show flushW s n j (lsc s n j) = ws from h1]
  exact ⟨by unfold lineW; rw [e]; rfl, .inl (by rw [e]), h3⟩
theorem lInv_begin {s : List UInt8} {n j : Nat} {ws : List Wd} (h : lInv s n j ws) (hj : j < s.length) (hb : wKind (s.getD j 0) = 0) : lsc s n (j + 1) = (ws, some j) := by
  obtain ⟨h1, h2, h3⟩ := h
  have h4 : (lsc s n j).2 = none := by
    rcases h2 with h2 | h2 | h2
    · exact h2
    · omega
    · rw [hb] at h2; cases h2
  have e : lsc s n j = (ws, none) := by
    unfold lineW flushW at h1; rw [h4] at h1
    exact Prod.ext h1 h4
  rw [lsc_vis e hb]; rfl
theorem lInv_word {s : List UInt8} {n f m : Nat} {ws : List Wd} (h : lsc s n m = (ws, some f)) (hm : m ≤ s.length) (he : m = s.length ∨ wKind (s.getD m 0) = 1) (hw : ws = [] ∨ isNote ws = false) (h35 : ws ≠ [] ∨ s.getD f 0 ≠ 35) :
    lInv s n m (ws ++ [⟨(s.drop f).take (m - f), n, f + 1⟩]) := by
  refine ⟨by unfold lineW; rw [h]; rfl, .inr he, .inr ?_⟩
  cases ws with
  | nil =>
    have hf : f < m := lsc_lt s n m f (by rw [h])
    have h35' : s.getD f 0 ≠ 35 := by rcases h35 with h | h; exact absurd rfl h; exact h
    simp [isNote, List.head?_take, List.head?_drop]
    intro _
    rw [getD_lt _ _ _ (by omega)] at h35'
    rw [List.getElem?_eq_getElem (by omega)]
    simpa using h35'
  | cons w ws' =>
    rcases hw with hw | hw
    · cases hw
    · exact hw

/-- what a line lays -/
def lineR (s : List UInt8) (n : Nat) : List Wd := if isNote (lineW s n s.length) then [] else lineW s n s.length
theorem lineR_end {s : List UInt8} {n : Nat} {ws : List Wd} (h : lInv s n s.length ws) : lineR s n = ws := by
  obtain ⟨h1, h2, h3⟩ := h
  unfold lineR; rw [h1]
  rcases h3 with rfl | h3
  · rfl
  · rw [h3]; rfl

theorem wKind_num (c : UInt8) (p : Nat) (h : c.toNat = p) : wKind c = if p = 10 then 2 else if p = 32 ∨ p = 9 then 1 else if 33 ≤ p ∧ p ≤ 126 then 0 else 3 := by
  subst h
  unfold wKind
  have e : ∀ d : UInt8, (c = d) ↔ (c.toNat = d.toNat) := fun d => ⟨fun h => by rw [h], fun h => UInt8.toNat_inj.1 h⟩
  simp only [e 10, e 32, e 9]
  rfl

theorem sub_bytes {w : World} {b off : Nat} {s : List UInt8} (hc : ∀ i, i < s.length → w.cell? ⟨b, off + i, none⟩ = some (.int .u8 ((s.getD i 0).toNat : Int))) (f m : Nat) (h : m ≤ s.length) :
    IsBytes w (some ⟨b, off + f, none⟩) ((s.drop f).take (m - f)) := by
  refine .inr ⟨b, off + f, rfl, fun i hi => ?_⟩
  have hi' : f + i < s.length := by simp at hi; omega
  have hi2 : i < m - f := by simp at hi; omega
  have := hc (f + i) hi'
  rw [show off + f + i = off + (f + i) by omega, this]
  simp [List.getD, List.getElem?_take, hi2]

theorem cells_new (w : World) (xs : List Value) (cs : Array Value) (t : TypeId) (h : cs = xs.toArray) : ∀ j u, xs[j]? = some u → (w.alloc (.cells cs t)).cell? ((⟨w.heap.size, 0, none⟩ : Addr).add j) = some u := by
  intro j u hj
  subst h
  by_cases h0 : j = 0
  · subst h0; simpa [Addr.add] using hj
  · simpa [Addr.add, h0] using hj

theorem own_slice {w : World} {base n size : Nat} {e : TypeId} {v : Value} {xs : List Value} (h : w.ownsRow base e size v n xs) : ∃ a cap, v = .slice a n cap := by
  rcases h.2 with ⟨rfl, rfl⟩ | ⟨g, cap, cur, rfl, _⟩
  · exact ⟨_, _, rfl⟩
  · exact ⟨_, _, rfl⟩

set_option maxRecDepth 100000 in
set_option maxHeartbeats 3200000 in
theorem rLine (s : List UInt8) (n : Nat) (hn : n ≤ 1000000) (b off cap : Nat) (hs : s.length ≤ 1000000) (hcap : s.length ≤ cap) (hk : ∀ i, i < s.length → wKind (s.getD i 0) = 0 ∨ wKind (s.getD i 0) = 1) (w : World)
    (hc : ∀ i, i < s.length → w.cell? ⟨b, off + i, none⟩ = some (.int .u8 ((s.getD i 0).toNat : Int))) :
    Calls Tryz.prog 64 #[.slice (some ⟨b, off, none⟩) s.length cap, .int .i64 n] w fun e w' => ∃ v, e = .returned v ∧ RowO w' w.heap.size v (lineR s n) ∧ Ext w w' := by
  obtain ⟨i0, hi, hz0, hz1, hz2⟩ := info_parts infoW
  have hC := Lib.hid hc
  have hK := Lib.hid hk
  clear hc hk
  go_enter Tryz.func64, Tryz.ntmps64
  go_wp2
  go_loopw [5, 6, 7] (fun lv i _ wr => ∃ (j : Nat) (ws : List Wd), j ≤ s.length ∧ i = .int .i64 j ∧ Hid (lInv s n j ws) ∧ ws.length ≤ j + 1 ∧ wr.ownsRow w.heap.size 97 3 lv ws.length (wdCells ws) ∧ Ext w wr) (fun _ i _ _ => s.length - (intOf i).toNat)
  case atStart => exact ⟨0, [], Nat.zero_le _, rfl, Lib.hid (lInv_zero _ _), by simp, World.ownsRow_nil _ _ _ _, Ext.refl _⟩
  case round =>
    obtain ⟨j, ws, hj, rfl, hI, hwl, hown, hx⟩ := hrel
    obtain ⟨oa, ocap, rfl⟩ := own_slice hown
    by_cases hlt : j < s.length
    · obtain ⟨p, hp⟩ : ∃ p : Nat, (s.getD j 0).toNat = p := ⟨_, rfl⟩
      have hp2 : p ≤ 255 := by rw [← hp]; exact Nat.le_of_lt_succ (UInt8.toNat_lt _)
      have hcell : wr.cell? ⟨b, off + j, none⟩ = some (.int .u8 (p : Int)) := by rw [← hp]; exact hx.reads (hC.out j hlt)
      have hkj : Hid (wKind (s.getD j 0) = if p = 10 then 2 else if p = 32 ∨ p = 9 then 1 else if 33 ≤ p ∧ p ≤ 126 then 0 else 3) := Lib.hid (wKind_num _ _ hp)
      go_wp2_with fail
      refine (rBlank p (by omega) (by omega) _).mono ?_
      rintro e w1 ⟨rfl, rfl⟩
      by_cases hb : p = 32 ∨ p = 9
      · have e1 : (decide ((p : Int) = 32) || decide ((p : Int) = 9)) = true := by simp; omega
        rw [e1]; clear e1
        have hN := Lib.hid (lInv_blank hI.out (by rw [hkj.out]; rcases hb with rfl | rfl <;> decide))
        clear hkj hI
        go_wp2
        go_roundw
        case rel => exact ⟨j + 1, ws, by omega, by go_num, hN, by omega, hown, hx⟩
        case measure => simp [intOf]; omega
      · have e1 : (decide ((p : Int) = 32) || decide ((p : Int) = 9)) = false := by simp; omega
        rw [e1]; clear e1
        have hv : wKind (s.getD j 0) = 0 := by
          rcases hK.out j hlt with h | h
          · exact h
          · exfalso; rw [hkj.out] at h; revert h; repeat' split
            all_goals first | omega | simp
        have hB := Lib.hid (lInv_begin hI.out hlt hv)
        have hI2 := Lib.hid hI.out.2.2
        have hP := Lib.hid hp
        clear hkj hv hI hp
        go_wp2
        go_loop [6] (fun i => ∃ m : Nat, j ≤ m ∧ m ≤ s.length ∧ i = .int .i64 m ∧ (m = j ∨ Hid (lsc s n m = (ws, some j)))) (fun i => s.length - (intOf i).toNat)
        case atStart => exact ⟨j, Nat.le_refl _, hj, rfl, .inl rfl⟩
        case round =>
          obtain ⟨m, hjm, hm, rfl, hS⟩ := hrel
          by_cases hltm : m < s.length
          · obtain ⟨q, hq⟩ : ∃ q : Nat, (s.getD m 0).toNat = q := ⟨_, rfl⟩
            have hq2 : q ≤ 255 := by rw [← hq]; exact Nat.le_of_lt_succ (UInt8.toNat_lt _)
            have hcellm : wr.cell? ⟨b, off + m, none⟩ = some (.int .u8 (q : Int)) := by rw [← hq]; exact hx.reads (hC.out m hltm)
            have hkm : Hid (wKind (s.getD m 0) = if q = 10 then 2 else if q = 32 ∨ q = 9 then 1 else if 33 ≤ q ∧ q ≤ 126 then 0 else 3) := Lib.hid (wKind_num _ _ hq)
            have hmq : m = j → q = p := by
              rintro rfl
              rw [hcell] at hcellm
              injection hcellm with h; injection h with _ h; omega
            clear hq
            go_wp2_with fail
            refine (rBlank q (by omega) (by omega) _).mono ?_
            rintro e w1 ⟨rfl, rfl⟩
            by_cases hbq : q = 32 ∨ q = 9
            · have e1 : (decide ((q : Int) = 32) || decide ((q : Int) = 9)) = true := by simp; omega
              rw [e1]; clear e1
              have hmj : m ≠ j := fun h => hb (by rw [← hmq h]; exact hbq)
              have hS' : Hid (lsc s n m = (ws, some j)) := by
                rcases hS with h | h
                · exact absurd h hmj
                · exact h
              clear hS hmq
              by_cases hw0 : ws = []
              · subst hw0
                have hown : wr.ownsRow w.heap.size 97 3 (.slice oa 0 ocap) 0 [] := hown
                by_cases h35 : p = 35
                · subst h35
                  have hN : Hid (lineR s n = []) := Lib.hid (by
                    unfold lineR
                    rw [note_of_first s n m j s.length hS'.out hm hlt (UInt8.toNat_inj.1 (by rw [hP.out]; rfl))]; rfl)
                  go_wp2
                  go_ret
                  exact ⟨_, rfl, by rw [hN.out]; exact World.ownsRow_nil _ _ _ _, hx⟩
                · have h35' : ((p : Int) == 35) = false := beq_eq_false_iff_ne.2 (by omega)
                  have hW := Lib.hid (lInv_word hS'.out hm (.inr (by rw [hkm.out]; rcases hbq with rfl | rfl <;> decide)) hI2.out (.inr (fun h => h35 (by rw [← hP.out, h]; rfl))))
                  have hcv := conv_str (cap - j) (sub_bytes (fun i hi => hx.reads (hC.out i hi)) j m hm)
                  have hTl : ((s.drop j).take (m - j)).length = m - j := by rw [List.length_take, List.length_drop]; omega
                  rw [hTl] at hcv
                  obtain ⟨T, eT⟩ : ∃ T, (s.drop j).take (m - j) = T := ⟨_, rfl⟩
                  rw [eT] at hcv hW
                  clear eT hTl
                  go_wp2_with (at_builtin; refine wpList_append_own _ rfl _ _ 95 rfl w.heap.size 97 i0 _ 3 32 Tryz.underlying95 hi hz0 hz1 hz2 rfl (by decide) _ _ _ rfl (hown.alloc _) ⟨wr.heap.size, 0, none⟩ 1 1 (wdCells [Wd.mk T n (j + 1)]) rfl rfl ?c1a ?c2a ?c3a ?c4a ?c5a ?_)
                  case c1a => first | exact cells_new _ _ _ _ (by simp [wdCells]) | (intro q u h; simpa [wdCells] using h)
                  case c2a => exact wdCells_one _
                  case c3a => unfold maxLen; omega
                  try (case c4a => omega)
                  case c5a => have := hx.size; simp; omega
                  intro v' w1 hown1 hgrow1 _
                  have hext2 := ext_grown hx hown hgrow1
                  have hown2 : w1.ownsRow w.heap.size 97 3 v' ([] ++ [Wd.mk T n (j + 1)]).length (wdCells ([] ++ [Wd.mk T n (j + 1)])) := by
                    rw [List.length_append, wdCells_app]; exact hown1
                  clear hown hx hown1 hgrow1
                  go_wp2
                  go_roundw
                  case rel => exact ⟨m, _, hm, rfl, hW, by rw [List.length_append]; show _ + 1 ≤ _; omega, hown2, hext2⟩
                  case measure => simp [intOf]; omega
              · have hwf : ((ws.length : Int) == 0) = false := beq_eq_false_iff_ne.2 (by have : ws.length ≠ 0 := fun h => hw0 (List.eq_nil_of_length_eq_zero h); omega)
                have hW := Lib.hid (lInv_word hS'.out hm (.inr (by rw [hkm.out]; rcases hbq with rfl | rfl <;> decide)) hI2.out (.inl hw0))
                have hcv := conv_str (cap - j) (sub_bytes (fun i hi => hx.reads (hC.out i hi)) j m hm)
                have hTl : ((s.drop j).take (m - j)).length = m - j := by rw [List.length_take, List.length_drop]; omega
                rw [hTl] at hcv
                obtain ⟨T, eT⟩ : ∃ T, (s.drop j).take (m - j) = T := ⟨_, rfl⟩
                rw [eT] at hcv hW
                clear eT hTl
                go_wp2_with (at_builtin; refine wpList_append_own _ rfl _ _ 95 rfl w.heap.size 97 i0 _ 3 32 Tryz.underlying95 hi hz0 hz1 hz2 rfl (by decide) _ _ _ rfl (hown.alloc _) ⟨wr.heap.size, 0, none⟩ 1 1 (wdCells [Wd.mk T n (j + 1)]) rfl rfl ?c1b ?c2b ?c3b ?c4b ?c5b ?_)
                case c1b => first | exact cells_new _ _ _ _ (by simp [wdCells]) | (intro q u h; simpa [wdCells] using h)
                case c2b => exact wdCells_one _
                case c3b => unfold maxLen; omega
                try (case c4b => omega)
                case c5b => have := hx.size; simp; omega
                intro v' w1 hown1 hgrow1 _
                have hext2 := ext_grown hx hown hgrow1
                have hown2 : w1.ownsRow w.heap.size 97 3 v' (ws ++ [Wd.mk T n (j + 1)]).length (wdCells (ws ++ [Wd.mk T n (j + 1)])) := by
                  rw [List.length_append, wdCells_app]; exact hown1
                clear hown hx hown1 hgrow1
                go_wp2
                go_roundw
                case rel => exact ⟨m, _, hm, rfl, hW, by rw [List.length_append]; show _ + 1 ≤ _; omega, hown2, hext2⟩
                case measure => simp [intOf]; omega
            · have e1 : (decide ((q : Int) = 32) || decide ((q : Int) = 9)) = false := by simp; omega
              rw [e1]; clear e1
              have hvm : wKind (s.getD m 0) = 0 := by
                rcases hK.out m hltm with h | h
                · exact h
                · exfalso; rw [hkm.out] at h; revert h; repeat' split
                  all_goals first | omega | simp
              have hS' : Hid (lsc s n (m + 1) = (ws, some j)) := by
                rcases hS with h | h
                · subst h; exact hB
                · exact Lib.hid (by rw [lsc_vis h.out hvm]; rfl)
              clear hS hmq hkm hvm
              go_wp2
              go_round
              case rel => exact ⟨m + 1, by omega, by omega, by go_num, .inr hS'⟩
              case measure => simp [intOf]; omega
          · obtain rfl : m = s.length := by omega
            have hS' : Hid (lsc s n s.length = (ws, some j)) := by
              rcases hS with h | h
              · omega
              · exact h
            clear hS
            by_cases hw0 : ws = []
            · subst hw0
              have hown : wr.ownsRow w.heap.size 97 3 (.slice oa 0 ocap) 0 [] := hown
              by_cases h35 : p = 35
              · subst h35
                have hN : Hid (lineR s n = []) := Lib.hid (by
                  unfold lineR
                  rw [note_of_first s n s.length j s.length hS'.out hm hlt (UInt8.toNat_inj.1 (by rw [hP.out]; rfl))]; rfl)
                go_wp2
                go_ret
                exact ⟨_, rfl, by rw [hN.out]; exact World.ownsRow_nil _ _ _ _, hx⟩
              · have h35' : ((p : Int) == 35) = false := beq_eq_false_iff_ne.2 (by omega)
                have hW := Lib.hid (lInv_word hS'.out hm (.inl rfl) hI2.out (.inr (fun h => h35 (by rw [← hP.out, h]; rfl))))
                have hcv := conv_str (cap - j) (sub_bytes (fun i hi => hx.reads (hC.out i hi)) j s.length hm)
                have hTl : ((s.drop j).take (s.length - j)).length = s.length - j := by rw [List.length_take, List.length_drop]; omega
                rw [hTl] at hcv
                obtain ⟨T, eT⟩ : ∃ T, (s.drop j).take (s.length - j) = T := ⟨_, rfl⟩
                rw [eT] at hcv hW
                clear eT hTl
                go_wp2_with (at_builtin; refine wpList_append_own _ rfl _ _ 95 rfl w.heap.size 97 i0 _ 3 32 Tryz.underlying95 hi hz0 hz1 hz2 rfl (by decide) _ _ _ rfl (hown.alloc _) ⟨wr.heap.size, 0, none⟩ 1 1 (wdCells [Wd.mk T n (j + 1)]) rfl rfl ?c1c ?c2c ?c3c ?c4c ?c5c ?_)
                case c1c => first | exact cells_new _ _ _ _ (by simp [wdCells]) | (intro q u h; simpa [wdCells] using h)
                case c2c => exact wdCells_one _
                case c3c => unfold maxLen; omega
                try (case c4c => omega)
                case c5c => have := hx.size; simp; omega
                intro v' w1 hown1 hgrow1 _
                have hext2 := ext_grown hx hown hgrow1
                have hown2 : w1.ownsRow w.heap.size 97 3 v' ([] ++ [Wd.mk T n (j + 1)]).length (wdCells ([] ++ [Wd.mk T n (j + 1)])) := by
                  rw [List.length_append, wdCells_app]; exact hown1
                clear hown hx hown1 hgrow1
                go_wp2
                go_roundw
                case rel => exact ⟨s.length, _, hm, rfl, hW, by rw [List.length_append]; show _ + 1 ≤ _; omega, hown2, hext2⟩
                case measure => simp [intOf]; omega
            · have hwf : ((ws.length : Int) == 0) = false := beq_eq_false_iff_ne.2 (by have : ws.length ≠ 0 := fun h => hw0 (List.eq_nil_of_length_eq_zero h); omega)
              have hW := Lib.hid (lInv_word hS'.out hm (.inl rfl) hI2.out (.inl hw0))
              have hcv := conv_str (cap - j) (sub_bytes (fun i hi => hx.reads (hC.out i hi)) j s.length hm)
              have hTl : ((s.drop j).take (s.length - j)).length = s.length - j := by rw [List.length_take, List.length_drop]; omega
              rw [hTl] at hcv
              obtain ⟨T, eT⟩ : ∃ T, (s.drop j).take (s.length - j) = T := ⟨_, rfl⟩
              rw [eT] at hcv hW
              clear eT hTl
              go_wp2_with (at_builtin; refine wpList_append_own _ rfl _ _ 95 rfl w.heap.size 97 i0 _ 3 32 Tryz.underlying95 hi hz0 hz1 hz2 rfl (by decide) _ _ _ rfl (hown.alloc _) ⟨wr.heap.size, 0, none⟩ 1 1 (wdCells [Wd.mk T n (j + 1)]) rfl rfl ?c1d ?c2d ?c3d ?c4d ?c5d ?_)
              case c1d => first | exact cells_new _ _ _ _ (by simp [wdCells]) | (intro q u h; simpa [wdCells] using h)
              case c2d => exact wdCells_one _
              case c3d => unfold maxLen; omega
              try (case c4d => omega)
              case c5d => have := hx.size; simp; omega
              intro v' w1 hown1 hgrow1 _
              have hext2 := ext_grown hx hown hgrow1
              have hown2 : w1.ownsRow w.heap.size 97 3 v' (ws ++ [Wd.mk T n (j + 1)]).length (wdCells (ws ++ [Wd.mk T n (j + 1)])) := by
                rw [List.length_append, wdCells_app]; exact hown1
              clear hown hx hown1 hgrow1
              go_wp2
              go_roundw
              case rel => exact ⟨s.length, _, hm, rfl, hW, by rw [List.length_append]; show _ + 1 ≤ _; omega, hown2, hext2⟩
              case measure => simp [intOf]; omega
    · obtain rfl : j = s.length := by omega
      have hN := Lib.hid (lineR_end hI.out)
      clear hI
      go_wp2
      go_ret
      exact ⟨_, rfl, by rw [hN.out]; exact hown, hx⟩

end Go.Proofs.YtdgcgpapcbjfhaaGreatDoor

/- Words of a text, by the reference: all lines. -/
namespace Go.Proofs.YtdgcgpapcbjfhaaGreatDoor
open Go.RowKit

theorem rLine0 (a : Option Addr) (cap : Nat) (n : Int) (w : World) :
    Calls Tryz.prog 64 #[.slice a 0 cap, .int .i64 n] w fun e w' => e = .returned (.slice none 0 0) ∧ w = w' := by
  go_enter Tryz.func64, Tryz.ntmps64
  go_wp2
  go_loop [5, 6, 7] (fun lv i _ => i = .int .i64 0 ∧ lv = .slice none 0 0) (fun _ _ _ => 0)
  case atStart => exact ⟨rfl, rfl⟩
  case round =>
    obtain ⟨rfl, rfl⟩ := hrel
    go_wp2
    go_ret
    exact ⟨rfl, rfl⟩

theorem ret_split {v : Value} {a b c a' b' c' : Int} (h1 : a = a') (h2 : b = b') (h3 : c = c') :
    Ending.returned (.tuple #[v, .int .i64 a, .agg #[.int .i64 b, .int .i64 c]]) = .returned (.tuple #[v, .int .i64 a', .agg #[.int .i64 b', .int .i64 c']]) := by rw [h1, h2, h3]

/-- between two rounds of a text -/
def sInv (l : List UInt8) (k n f : Nat) (ls : List (List Wd)) : Prop := (k ≤ l.length ∧ rst l k = (ls, n, f) ∧ clean l k) ∨ (k = l.length + 1 ∧ ls = spAll l l.length ∧ clean l l.length)

set_option maxRecDepth 100000 in
set_option maxHeartbeats 6400000 in
theorem rSplit (l : List UInt8) (b off cap : Nat) (hl : l.length ≤ 900000) (hcap : l.length ≤ cap) (w : World)
    (hc : ∀ i, i < l.length → w.cell? ⟨b, off + i, none⟩ = some (.int .u8 ((l.getD i 0).toNat : Int))) :
    Calls Tryz.prog 39 #[.slice (some ⟨b, off, none⟩) l.length cap] w fun e w' => ∃ v, e = .returned (.tuple #[v, .int .i64 (spE l), .agg #[.int .i64 (spLn l), .int .i64 (spCol l)]]) ∧ LinesAt w' v (spLines l) ∧ Ext w w' := by
  obtain ⟨i0, hi, hz0, hz1, hz2⟩ := info_parts infoL
  have hC := Lib.hid hc
  clear hc
  go_enter Tryz.func39, Tryz.ntmps39
  go_wp2
  obtain ⟨W, hW⟩ : ∃ W, w.alloc (.cells #[.int .i64 0, .int .i64 0] 57) = W := ⟨_, rfl⟩
  have p0 : W.cell? ⟨w.heap.size, 0, none⟩ = some (.int .i64 0) := by subst hW; go_simp
  have p1 : W.cell? ⟨w.heap.size, 1, none⟩ = some (.int .i64 0) := by subst hW; go_simp
  have q0 : W.frozen? ⟨w.heap.size, 0, none⟩ = false := by subst hW; go_simp
  have q1 : W.frozen? ⟨w.heap.size, 1, none⟩ = false := by subst hW; go_simp
  have xW : Ext w W := by subst hW; repeat (first | exact Ext.refl _ | assumption | apply Ext.drew | apply Ext.alloc | (refine Ext.setCell ?_ (by simp <;> omega) _) | refine Ext.trans ?_ (by assumption))
  have hsz : w.heap.size < W.heap.size := by subst hW; simp
  rw [hW]
  clear hW
  have hC : Hid (∀ i, i < l.length → W.cell? ⟨b, off + i, none⟩ = some (.int .u8 ((l.getD i 0).toNat : Int))) := Lib.hid fun i hi => xW.reads (hC.out i hi)
  go_loopw [5, 6, 7, 8, 9] (fun ov nv fv i _ wr => ∃ (k n f : Nat) (ls : List (List Wd)) (vs : List Value), k ≤ l.length + 1 ∧ i = .int .i64 k ∧ nv = .int .i64 n ∧ fv = .int .i64 f ∧ n ≤ k + 1 ∧ f ≤ k ∧ ls.length ≤ k ∧
      Hid (LinesO wr W.heap.size ov vs ls) ∧ Hid (sInv l k n f ls) ∧ Ext W wr) (fun _ _ _ i _ _ => l.length + 1 - (intOf i).toNat)
  case atStart => exact ⟨0, 1, 0, [], [], Nat.zero_le _, rfl, rfl, rfl, by omega, Nat.le_refl _, by simp, Lib.hid (LinesO.nil _ _), Lib.hid (.inl ⟨Nat.zero_le _, rfl, clean_zero l⟩), Ext.refl _⟩
  case round =>
    obtain ⟨k, n, f, ls, vs, hk, rfl, rfl, rfl, hn, hf, hls, hO, hI, hx⟩ := hrel
    obtain ⟨oa, ocap, rfl⟩ := own_slice hO.out.2.1
    by_cases hle : k ≤ l.length
    · have hI : Hid (rst l k = (ls, n, f) ∧ clean l k) := Lib.hid (by
        rcases hI.out with h | h
        · exact h.2
        · omega)
      have hget : ∀ i, i < k - f → ((l.drop f).take (k - f)).getD i 0 = l.getD (f + i) 0 := fun i hi => by simp [List.getD, List.getElem?_take, hi]
      have hlen : ((l.drop f).take (k - f)).length = k - f := by rw [List.length_take, List.length_drop]; omega
      have hKK : ∀ i, i < ((l.drop f).take (k - f)).length → wKind (((l.drop f).take (k - f)).getD i 0) = 0 ∨ wKind (((l.drop f).take (k - f)).getD i 0) = 1 := fun i hi => by
        rw [hlen] at hi
        rw [hget i hi]
        have h1 := hI.out.2 (f + i) (by omega)
        have h2 := rst_line l k (f + i) (by rw [hI.out.1]; simp) (by omega)
        unfold wKind at h1 ⊢
        rw [if_neg h2] at h1 ⊢
        repeat' split
        all_goals simp_all
      have hCC : ∀ i, i < ((l.drop f).take (k - f)).length → wr.cell? ⟨b, off + f + i, none⟩ = some (.int .u8 ((((l.drop f).take (k - f)).getD i 0).toNat : Int)) := fun i hi => by
        rw [hlen] at hi
        rw [hget i hi, show off + f + i = off + (f + i) by omega]
        exact hx.reads (hC.out (f + i) (by omega))
      have hKK := Lib.hid hKK
      have hCC := Lib.hid hCC
      clear hget hlen
      by_cases hlt : k < l.length
      · obtain ⟨p, hp⟩ : ∃ p : Nat, (l.getD k 0).toNat = p := ⟨_, rfl⟩
        have hp2 : p ≤ 255 := by rw [← hp]; exact Nat.le_of_lt_succ (UInt8.toNat_lt _)
        have hcell : wr.cell? ⟨b, off + k, none⟩ = some (.int .u8 (p : Int)) := by rw [← hp]; exact hx.reads (hC.out k hlt)
        have hkj : Hid (wKind (l.getD k 0) = if p = 10 then 2 else if p = 32 ∨ p = 9 then 1 else if 33 ≤ p ∧ p ≤ 126 then 0 else 3) := Lib.hid (wKind_num _ _ hp)
        by_cases h10 : p = 10
        · subst h10
          have hNN : Hid (sInv l (k + 1) (n + 1) (k + 1) (ls ++ layW (lineW (l.drop f) n (k - f)))) := Lib.hid (.inl ⟨hlt, by
            rw [rst_end (UInt8.toNat_inj.1 (by rw [hp]; rfl))]; unfold spAll; rw [hI.out.1], clean_succ hI.out.2 (by rw [hkj.out]; decide)⟩)
          clear hp hkj
          by_cases hfk : f = k
          · subst hfk
            have hN : Hid (sInv l (f + 1) (n + 1) (f + 1) (ls)) := Lib.hid (by
              have := hNN.out
              rw [show f - f = 0 by omega, show lineW (l.drop f) n 0 = [] from rfl, show layW [] = [] from rfl, List.append_nil] at this
              exact this)
            clear hNN hKK hCC hI
            go_wp2_with fail
            all_goals
              refine (rLine0 _ _ _ _).mono ?_
              rintro e w1 ⟨rfl, rfl⟩
              go_wp2
              go_roundw
              case rel => exact ⟨f + 1, n + 1, f + 1, ls, vs, by omega, by go_num, by go_num, by go_num, by omega, by omega, by omega, hO, hN, hx⟩
              case measure => (simp [intOf]) <;> omega
          · have hlk : ((l.drop f).take (k - f)).length = k - f := by rw [List.length_take, List.length_drop]; omega
            have hL := rLine ((l.drop f).take (k - f)) n (by omega) b (off + f) (cap - f) (by rw [hlk]; omega) (by rw [hlk]; omega) hKK.out wr hCC.out
            rw [hlk] at hL
            have hRR : Hid (lineR ((l.drop f).take (k - f)) n = if isNote (lineW (l.drop f) n (k - f)) then [] else lineW (l.drop f) n (k - f)) := Lib.hid (by unfold lineR; rw [hlk, lineW_take])
            have hRl : (lineR ((l.drop f).take (k - f)) n).length ≤ 1000001 := by
              rw [hRR.out]; have := lineW_len (l.drop f) n (k - f); split
              · simp
              · omega
            obtain ⟨R, eR⟩ : ∃ R, lineR ((l.drop f).take (k - f)) n = R := ⟨_, rfl⟩
            rw [eR] at hL hRR hRl
            clear eR hlk hKK hCC hI
            go_wp2_with fail
            refine hL.mono ?_
            rintro e w1 ⟨v, rfl, hv, hx1⟩
            clear hL
            have hO1 : Hid (LinesO w1 W.heap.size (.slice oa ls.length ocap) vs ls) := Lib.hid (hO.out.ext hx1)
            have hx2 := hx.trans hx1
            obtain ⟨va, vcap, rfl⟩ := own_slice hv
            by_cases hRn : R = []
            · have hN : Hid (sInv l (k + 1) (n + 1) (k + 1) (ls)) := Lib.hid (by
                have := hNN.out
                rw [layW_nil hRR.out hRn, List.append_nil] at this
                exact this)
              subst hRn
              clear hNN hRR
              go_wp2
              go_roundw
              case rel => exact ⟨k + 1, n + 1, k + 1, ls, vs, by omega, by go_num, by go_num, by go_num, by omega, by omega, by omega, hO1, hN, hx2⟩
              case measure => (simp [intOf]) <;> omega
            · have hRp : 0 < R.length := Nat.pos_of_ne_zero fun h => hRn (List.eq_nil_of_length_eq_zero h)
              have hN : Hid (sInv l (k + 1) (n + 1) (k + 1) (ls ++ [R])) := Lib.hid (by
                have := hNN.out
                rw [layW_one hRR.out hRn] at this
                exact this)
              have hown := hO1.out.2.1
              have hvv : Hid (RowO w1 W.heap.size (.slice va R.length vcap) R) := Lib.hid (owns_mono hv hx.size)
              clear hNN hRR hv
              go_wp2_with (at_builtin; refine wpList_append_own _ rfl _ _ 85 rfl W.heap.size 95 i0 _ 1 24 Tryz.underlying85 hi hz0 hz1 hz2 rfl (by decide) _ _ _ rfl (hown.alloc _) ⟨w1.heap.size, 0, none⟩ 1 1 [.slice va R.length vcap] rfl rfl ?c1a ?c2a ?c3a ?c4a ?c5a ?_)
              case c1a => first | exact cells_new _ _ _ _ (by simp) | (intro q u h; simpa using h)
              case c2a => simp [Value.oneCell']
              case c3a => unfold maxLen; omega
              try (case c4a => omega)
              case c5a => exact (hx2.alloc _).size
              intro v' w3 hown3 hgrow3 _
              have hext3 := But.ext (S := fun k => (Value.slice oa ls.length ocap).ownBlock = some k) (((But.refl _ w1).alloc _).grown hgrow3 (fun k hk => hk)) hx2 (fun k hk => (hown.lt k hk).1)
              have hO3 := Lib.hid (hO1.out.app hvv.out hgrow3 hown3)
              clear hown hx hx1 hx2 hown3 hgrow3 hO1 hvv hO
              go_wp2
              go_roundw
              case rel => exact ⟨k + 1, n + 1, k + 1, ls ++ [R], vs ++ [.slice va R.length vcap], by omega, by go_num, by go_num, by go_num, by omega, by omega, by rw [List.length_append]; show _ + 1 ≤ _; omega, hO3, hN, hext3⟩
              case measure => (simp [intOf]) <;> omega
        · clear hKK hCC
          have hne : ((p : Int) == 10) = false := beq_eq_false_iff_ne.2 (by omega)
          have hne' : ((p : Int) != 10) = true := by simp; omega
          have hg : l.getD k 0 ≠ 10 := fun h => h10 (by rw [← hp, h]; rfl)
          clear hp
          go_wp2_with fail
          refine (rBlank p (by omega) (by omega) _).mono ?_
          rintro e w1 ⟨rfl, rfl⟩
          by_cases hb : p = 32 ∨ p = 9
          · have e1 : (decide ((p : Int) = 32) || decide ((p : Int) = 9)) = true := by simp; omega
            rw [e1]; clear e1
            have hN : Hid (sInv l (k + 1) n f ls) :=
              Lib.hid (.inl ⟨hlt, by rw [rst_go hg]; exact hI.out.1, clean_succ hI.out.2 (by rw [hkj.out, if_neg h10, if_pos hb]; decide)⟩)
            clear hkj hI
            go_wp2
            go_roundw
            case rel => exact ⟨k + 1, n, f, ls, vs, by omega, by go_num, rfl, rfl, by omega, by omega, by omega, hO, hN, hx⟩
            case measure => (simp [intOf]) <;> omega
          · have e1 : (decide ((p : Int) = 32) || decide ((p : Int) = 9)) = false := by simp; omega
            rw [e1]; clear e1
            by_cases hv : 33 ≤ p ∧ p ≤ 126
            · have hN : Hid (sInv l (k + 1) n f ls) :=
                Lib.hid (.inl ⟨hlt, by rw [rst_go hg]; exact hI.out.1, clean_succ hI.out.2 (by rw [hkj.out, if_neg h10, if_neg hb, if_pos hv]; decide)⟩)
              clear hkj hI
              go_wp2
              go_roundw
              case rel => exact ⟨k + 1, n, f, ls, vs, by omega, by go_num, rfl, rfl, by omega, by omega, by omega, hO, hN, hx⟩
              case measure => (simp [intOf]) <;> omega
            · have hN := Lib.hid (sp_bad hI.out.2 hlt (by rw [hkj.out, if_neg h10, if_neg hb, if_neg hv]))
              have hR := Lib.hid hI.out.1
              have c0 := hx.reads p0
              have c1 := hx.reads p1
              have f0 := hx.free p0 q0
              have f1 := hx.free p1 q1
              clear hkj hI
              by_cases hv1 : p < 33
              · go_wp2
                refine bodyPost_ret (v := .tuple #[.slice none 0 0, .int .i64 20, .agg #[.int .i64 n, .int .i64 ((k : Int) - f + 1)]]) (by simp [results, Tryz.results39, go_sem, c0, c1]) rfl ?_
                obtain ⟨e1, e2, e3, e4⟩ := hN.out
                refine ⟨_, ret_split e1.symm ?_ ?_, ?_, ?_⟩
                · rw [e2, hR.out]
                · rw [e3, hR.out]; simp only; omega
                · rw [e4]; exact LinesAt.nil _
                · exact ((But.refl (fun k => k = w.heap.size) wr).setCell rfl _ |>.setCell rfl _).ext (xW.trans hx) (by rintro k rfl; exact Nat.le_refl _)
              · have hv2 : 126 < p := by omega
                go_wp2
                refine bodyPost_ret (v := .tuple #[.slice none 0 0, .int .i64 20, .agg #[.int .i64 n, .int .i64 ((k : Int) - f + 1)]]) (by simp [results, Tryz.results39, go_sem, c0, c1]) rfl ?_
                obtain ⟨e1, e2, e3, e4⟩ := hN.out
                refine ⟨_, ret_split e1.symm ?_ ?_, ?_, ?_⟩
                · rw [e2, hR.out]
                · rw [e3, hR.out]; simp only; omega
                · rw [e4]; exact LinesAt.nil _
                · exact ((But.refl (fun k => k = w.heap.size) wr).setCell rfl _ |>.setCell rfl _).ext (xW.trans hx) (by rintro k rfl; exact Nat.le_refl _)
      · obtain rfl : k = l.length := by omega
        have hNN : Hid (sInv l (l.length + 1) (n + 1) (l.length + 1) (ls ++ layW (lineW (l.drop f) n (l.length - f)))) := Lib.hid (.inr ⟨rfl, by
          unfold spAll; rw [hI.out.1], hI.out.2⟩)
        by_cases hfk : f = l.length
        · subst hfk
          have hN : Hid (sInv l (l.length + 1) (n + 1) (l.length + 1) (ls)) := Lib.hid (by
            have := hNN.out
            rw [show l.length - l.length = 0 by omega, show lineW (l.drop l.length) n 0 = [] from rfl, show layW [] = [] from rfl, List.append_nil] at this
            exact this)
          clear hNN hKK hCC hI
          by_cases hcl : cap = l.length
          · subst hcl
            go_wp2_with fail
            refine (rLine0 _ _ _ _).mono ?_
            rintro e w1 ⟨rfl, rfl⟩
            go_wp2
            go_roundw
            case rel => exact ⟨l.length + 1, n + 1, l.length + 1, ls, vs, by omega, by go_num, by go_num, by go_num, by omega, by omega, by omega, hO, hN, hx⟩
            case measure => (simp [intOf]) <;> omega
          · have hcl2 : ¬ cap ≤ l.length := by omega
            go_wp2_with fail
            refine (rLine0 _ _ _ _).mono ?_
            rintro e w1 ⟨rfl, rfl⟩
            go_wp2
            go_roundw
            case rel => exact ⟨l.length + 1, n + 1, l.length + 1, ls, vs, by omega, by go_num, by go_num, by go_num, by omega, by omega, by omega, hO, hN, hx⟩
            case measure => (simp [intOf]) <;> omega
        · have hlk : ((l.drop f).take (l.length - f)).length = l.length - f := by rw [List.length_take, List.length_drop]; omega
          have hL := rLine ((l.drop f).take (l.length - f)) n (by omega) b (off + f) (cap - f) (by rw [hlk]; omega) (by rw [hlk]; omega) hKK.out wr hCC.out
          rw [hlk] at hL
          have hRR : Hid (lineR ((l.drop f).take (l.length - f)) n = if isNote (lineW (l.drop f) n (l.length - f)) then [] else lineW (l.drop f) n (l.length - f)) := Lib.hid (by unfold lineR; rw [hlk, lineW_take])
          have hRl : (lineR ((l.drop f).take (l.length - f)) n).length ≤ 1000001 := by
            rw [hRR.out]; have := lineW_len (l.drop f) n (l.length - f); split
            · simp
            · omega
          obtain ⟨R, eR⟩ : ∃ R, lineR ((l.drop f).take (l.length - f)) n = R := ⟨_, rfl⟩
          rw [eR] at hL hRR hRl
          clear eR hlk hKK hCC hI
          go_wp2_with fail
          refine hL.mono ?_
          rintro e w1 ⟨v, rfl, hv, hx1⟩
          clear hL
          have hO1 : Hid (LinesO w1 W.heap.size (.slice oa ls.length ocap) vs ls) := Lib.hid (hO.out.ext hx1)
          have hx2 := hx.trans hx1
          obtain ⟨va, vcap, rfl⟩ := own_slice hv
          by_cases hRn : R = []
          · have hN : Hid (sInv l (l.length + 1) (n + 1) (l.length + 1) (ls)) := Lib.hid (by
              have := hNN.out
              rw [layW_nil hRR.out hRn, List.append_nil] at this
              exact this)
            subst hRn
            clear hNN hRR
            go_wp2
            go_roundw
            case rel => exact ⟨l.length + 1, n + 1, l.length + 1, ls, vs, by omega, by go_num, by go_num, by go_num, by omega, by omega, by omega, hO1, hN, hx2⟩
            case measure => (simp [intOf]) <;> omega
          · have hRp : 0 < R.length := Nat.pos_of_ne_zero fun h => hRn (List.eq_nil_of_length_eq_zero h)
            have hN : Hid (sInv l (l.length + 1) (n + 1) (l.length + 1) (ls ++ [R])) := Lib.hid (by
              have := hNN.out
              rw [layW_one hRR.out hRn] at this
              exact this)
            have hown := hO1.out.2.1
            have hvv : Hid (RowO w1 W.heap.size (.slice va R.length vcap) R) := Lib.hid (owns_mono hv hx.size)
            clear hNN hRR hv
            go_wp2_with (at_builtin; refine wpList_append_own _ rfl _ _ 85 rfl W.heap.size 95 i0 _ 1 24 Tryz.underlying85 hi hz0 hz1 hz2 rfl (by decide) _ _ _ rfl (hown.alloc _) ⟨w1.heap.size, 0, none⟩ 1 1 [.slice va R.length vcap] rfl rfl ?c1b ?c2b ?c3b ?c4b ?c5b ?_)
            case c1b => first | exact cells_new _ _ _ _ (by simp) | (intro q u h; simpa using h)
            case c2b => simp [Value.oneCell']
            case c3b => unfold maxLen; omega
            try (case c4b => omega)
            case c5b => exact (hx2.alloc _).size
            intro v' w3 hown3 hgrow3 _
            have hext3 := But.ext (S := fun k => (Value.slice oa ls.length ocap).ownBlock = some k) (((But.refl _ w1).alloc _).grown hgrow3 (fun k hk => hk)) hx2 (fun k hk => (hown.lt k hk).1)
            have hO3 := Lib.hid (hO1.out.app hvv.out hgrow3 hown3)
            clear hown hx hx1 hx2 hown3 hgrow3 hO1 hvv hO
            go_wp2
            go_roundw
            case rel => exact ⟨l.length + 1, n + 1, l.length + 1, ls ++ [R], vs ++ [.slice va R.length vcap], by omega, by go_num, by go_num, by go_num, by omega, by omega, by rw [List.length_append]; show _ + 1 ≤ _; omega, hO3, hN, hext3⟩
            case measure => (simp [intOf]) <;> omega
    · obtain rfl : k = l.length + 1 := by omega
      have hN : Hid (ls = spLines l ∧ spE l = 0 ∧ spLn l = 0 ∧ spCol l = 0) := Lib.hid (by
        rcases hI.out with h | h
        · omega
        · obtain ⟨e1, e2, e3, e4⟩ := sp_good h.2.2
          exact ⟨by rw [e4]; exact h.2.1, e1, e2, e3⟩)
      clear hI
      have c0 := hx.reads p0
      have c1 := hx.reads p1
      have f0 := hx.free p0 q0
      have f1 := hx.free p1 q1
      go_wp2
      refine bodyPost_ret (v := .tuple #[.slice oa ls.length ocap, .int .i64 0, .agg #[.int .i64 0, .int .i64 0]]) (by simp [results, Tryz.results39, go_sem, c0, c1]) rfl ?_
      obtain ⟨e4, e1, e2, e3⟩ := hN.out
      have hB : But (fun k => k = w.heap.size) wr ((wr.setCell ⟨w.heap.size, 0, none⟩ (.int .i64 0)).setCell ⟨w.heap.size, 1, none⟩ (.int .i64 0)) := ((But.refl (fun k => k = w.heap.size) wr).setCell rfl _).setCell rfl _
      refine ⟨_, ret_split e1.symm e2.symm e3.symm, ?_, hB.ext (xW.trans hx) (by rintro k rfl; exact Nat.le_refl _)⟩
      rw [← e4]
      exact (hO.out.but hB (by rintro k rfl; exact hsz)).at

set_option maxRecDepth 100000 in
set_option maxHeartbeats 3200000 in
theorem rSplit0 (a : Option Addr) (cap : Nat) (w : World) :
    Calls Tryz.prog 39 #[.slice a 0 cap] w fun e w' => e = .returned (.tuple #[.slice none 0 0, .int .i64 0, .agg #[.int .i64 0, .int .i64 0]]) ∧ Ext w w' := by
  go_enter Tryz.func39, Tryz.ntmps39
  go_wp2
  obtain ⟨W, hW⟩ : ∃ W, w.alloc (.cells #[.int .i64 0, .int .i64 0] 57) = W := ⟨_, rfl⟩
  have p0 : W.cell? ⟨w.heap.size, 0, none⟩ = some (.int .i64 0) := by subst hW; go_simp
  have p1 : W.cell? ⟨w.heap.size, 1, none⟩ = some (.int .i64 0) := by subst hW; go_simp
  have q0 : W.frozen? ⟨w.heap.size, 0, none⟩ = false := by subst hW; go_simp
  have q1 : W.frozen? ⟨w.heap.size, 1, none⟩ = false := by subst hW; go_simp
  have xW : Ext w W := by subst hW; repeat (first | exact Ext.refl _ | assumption | apply Ext.drew | apply Ext.alloc | (refine Ext.setCell ?_ (by simp <;> omega) _) | refine Ext.trans ?_ (by assumption))
  rw [hW]
  clear hW
  go_loop [5, 6, 7, 8, 9] (fun ov nv fv i _ => ∃ k : Nat, k ≤ 1 ∧ ov = .slice none 0 0 ∧ nv = .int .i64 (k + 1) ∧ fv = .int .i64 k ∧ i = .int .i64 k) (fun _ _ _ i _ => 2 - (intOf i).toNat)
  case atStart => exact ⟨0, by omega, rfl, rfl, rfl, rfl⟩
  case round =>
    obtain ⟨k, hk, rfl, rfl, rfl, rfl⟩ := hrel
    by_cases h1 : k = 1
    · subst h1
      go_wp2
      refine bodyPost_ret (v := .tuple #[.slice none 0 0, .int .i64 0, .agg #[.int .i64 0, .int .i64 0]]) (by simp [results, Tryz.results39, go_sem, p0, p1]) rfl ⟨rfl, ?_⟩
      exact (((But.refl (fun k => k = w.heap.size) W).setCell rfl _).setCell rfl _).ext xW (by rintro k rfl; exact Nat.le_refl _)
    · obtain rfl : k = 0 := by omega
      have hL := fun (b : Option Addr) (c : Nat) => rLine0 b c 1 W
      cases a
      · go_wp2_with fail
        refine (hL _ _).mono ?_
        rintro e w1 ⟨rfl, rfl⟩
        go_wp2
        go_round
        case rel => exact ⟨1, by omega, by go_num, by go_num, by go_num, by go_num⟩
        case measure => (simp [intOf]) <;> omega
      · go_wp2_with fail
        all_goals
          refine (hL _ _).mono ?_
          rintro e w1 ⟨rfl, rfl⟩
          go_wp2
          go_round
          case rel => exact ⟨1, by omega, by go_num, by go_num, by go_num, by go_num⟩
          case measure => (simp [intOf]) <;> omega

theorem sp_nil : spE [] = 0 ∧ spLn [] = 0 ∧ spCol [] = 0 ∧ spLines [] = [] := by
  obtain ⟨h1, h2, h3, h4⟩ := sp_good (l := []) (clean_zero _)
  exact ⟨h1, h2, h3, by rw [h4]; rfl⟩

theorem rSplitA (a : Option Addr) (cap : Nat) (l : List UInt8) (hl : l.length ≤ 900000) (hcap : l.length ≤ cap) (w : World) (hb : IsBytes w a l) :
    Calls Tryz.prog 39 #[.slice a l.length cap] w fun e w' => ∃ v, e = .returned (.tuple #[v, .int .i64 (spE l), .agg #[.int .i64 (spLn l), .int .i64 (spCol l)]]) ∧ LinesAt w' v (spLines l) ∧ Ext w w' := by
  rcases hb with rfl | ⟨b, off, rfl, hc⟩
  · refine (rSplit0 a cap w).mono ?_
    rintro e w' ⟨rfl, hx⟩
    obtain ⟨h1, h2, h3, h4⟩ := sp_nil
    rw [h1, h2, h3, h4]
    exact ⟨_, rfl, LinesAt.nil _, hx⟩
  · exact rSplit l b off cap hl hcap w hc

end Go.Proofs.YtdgcgpapcbjfhaaGreatDoor
