/- Rules sorted in place, by the library: two rows are merged, where the other is of one rule. -/
import Derived.Test.YtdgcgpapcbjfhaaGreatDoorJ17SrtI
set_option linter.unusedVariables false
set_option linter.unusedSimpArgs false

/- Rules sorted in place, by the library: two rows are merged, where the one is of one rule. -/
namespace Go.Proofs.YtdgcgpapcbjfhaaGreatDoor
open Go.RowKit

set_option maxRecDepth 100000 in
set_option maxHeartbeats 3200000 in
theorem pSymA (g cp n a m b : Nat) (L : List Rl) (ham : m = a + 1) (hmb : m < b) (hbn : b ≤ n) (hn : n ≤ 1000) (hs : Srtd L m b) (w : World) (h : InA w g cp n L) :
    Calls Tryz.prog 119 #[.slice (some ⟨g, 0, none⟩) n cp, .int .i64 a, .int .i64 m, .int .i64 b, .func (.func 61) #[] #[]] w fun e w' =>
      e = .returned (.tuple #[]) ∧ ∃ R, InA w' g cp n R ∧ Mix L R a b ∧ Srtd R a b ∧ But (fun x => x = g) w w' := by
  have hH := Lib.hid h
  have hS := Lib.hid hs
  clear h hs
  have ha1 : a + 1 ≤ m := by omega
  have ha2 : m ≤ a + 1 := by omega
  have he : ((m : Int) - (a : Int) == 1) = true := by simp; omega
  clear ham
  go_enter Tryz.func119, Tryz.ntmps119
  go_wp2
  go_loopw [10, 11] (fun iv jv wr => ∃ (i j : Nat), iv = .int .i64 i ∧ jv = .int .i64 j ∧ m ≤ i ∧ i ≤ j ∧ j ≤ b ∧ Hid ((∀ x, a < x → x < i → ltA L x a = true) ∧ ∀ x, j ≤ x → x < b → ltA L x a = false) ∧ Ext w wr) (fun iv jv _ => (intOf jv).toNat - (intOf iv).toNat)
  case atStart => exact ⟨m, b, rfl, rfl, Nat.le_refl _, by omega, Nat.le_refl _, Lib.hid ⟨fun x h1 h2 => by omega, fun x h1 h2 => by omega⟩, Ext.refl _⟩
  case round =>
    obtain ⟨i, j, rfl, rfl, hi, hij, hj, hI, hx⟩ := hrel
    have hK := hH.out.ext hx
    by_cases hlt : i < j
    · obtain ⟨q, hq, hq1, hq2⟩ : ∃ q : Nat, ((i : Int) + (j : Int)) / 2 = (q : Int) ∧ i ≤ q ∧ q < j := ⟨(i + j) / 2, by omega, by omega, by omega⟩
      obtain ⟨ia0, ia1, ia2, ia3⟩ := hK.reads (i := q) (by omega)
      obtain ⟨ib0, ib1, ib2, ib3⟩ := hK.reads (i := a) (by omega)
      have hC := pCmp (ga L q) (ga L a)
      unfold rlV at hC
      have hlen := hK.lt
      cases hlt2 : ltA L q a with
      | true =>
        have hc := cmpI_lt hlt2
        have hN : Hid ((∀ x, a < x → x < q + 1 → ltA L x a = true) ∧ ∀ x, j ≤ x → x < b → ltA L x a = false) := Lib.hid ⟨fun x h1 h2 => lessB_le_lt (hS.out.le (x := x) (y := q) (by omega) (by omega) (by omega)) hlt2, hI.out.2⟩
        clear hI hK
        generalize cmpI (ga L q).pre (ga L a).pre = c at *
        have hz1 : (0 : Int) ≤ (q : Int) := by omega
        have hz2 : (q : Int) < (n : Int) := by omega
        have hz3 : (0 : Int) ≤ (a : Int) := by omega
        have hz4 : (a : Int) < (n : Int) := by omega
        go_wp2
        go_region_held3 (Ext wr) (first | exact Ext.trans (by assumption) hb | repeat (first | exact Ext.refl _ | assumption | apply Ext.drew | apply Ext.alloc | (refine Ext.setCell ?_ (by simp <;> omega) _) | refine Ext.trans ?_ (by assumption))) ((go_at_call 61; refine (hC _).mono ?_; rintro e w9 ⟨rfl, hb⟩))
        all_goals
          have hx9 : Ext w w9 := Ext.trans hx (by assumption)
          clear ia0 ia1 ia2 ia3 ib0 ib1 ib2 ib3
          go_wp2
          go_roundw
          case rel => exact ⟨q + 1, j, by go_num, rfl, by omega, by omega, hj, hN, hx9⟩
          case measure => (simp [intOf]) <;> omega
      | false =>
        have hc := cmpI_ge hlt2
        have hN : Hid ((∀ x, a < x → x < i → ltA L x a = true) ∧ ∀ x, q ≤ x → x < b → ltA L x a = false) := Lib.hid ⟨hI.out.1, fun x h1 h2 => ltA_trans (y := q) hlt2 (hS.out.le (x := q) (y := x) (by omega) h1 h2)⟩
        clear hI hK
        generalize cmpI (ga L q).pre (ga L a).pre = c at *
        have hz1 : (0 : Int) ≤ (q : Int) := by omega
        have hz2 : (q : Int) < (n : Int) := by omega
        have hz3 : (0 : Int) ≤ (a : Int) := by omega
        have hz4 : (a : Int) < (n : Int) := by omega
        go_wp2
        go_region_held3 (Ext wr) (first | exact Ext.trans (by assumption) hb | repeat (first | exact Ext.refl _ | assumption | apply Ext.drew | apply Ext.alloc | (refine Ext.setCell ?_ (by simp <;> omega) _) | refine Ext.trans ?_ (by assumption))) ((go_at_call 61; refine (hC _).mono ?_; rintro e w9 ⟨rfl, hb⟩))
        all_goals
          have hx9 : Ext w w9 := Ext.trans hx (by assumption)
          clear ia0 ia1 ia2 ia3 ib0 ib1 ib2 ib3
          go_wp2
          go_roundw
          case rel => exact ⟨i, q, rfl, by go_num, hi, by omega, by omega, hN, hx9⟩
          case measure => (simp [intOf]) <;> omega
    · obtain rfl : i = j := by omega
      have hB : But (fun x => x = g) w wr := But.of_ext hx
      have hM : Hid (InA wr g cp n L ∧ Mix L L a b ∧ ∀ x, ga L x = if a ≤ x ∧ x < a then ga L (x + 1) else if x = a then ga L a else ga L x) := Lib.hid ⟨hK, Mix.refl _ _ _, fun x => by
        rw [if_neg (by omega)]; split
        · rename_i e; rw [e]
        · rfl⟩
      clear hK
      go_wp2
      go_loopw [13] (fun kv wq => ∃ (k : Nat) (C : List Rl), kv = .int .i64 k ∧ a ≤ k ∧ k ≤ i - 1 ∧ Hid (InA wq g cp n C ∧ Mix L C a b ∧ ∀ x, ga C x = if a ≤ x ∧ x < k then ga L (x + 1) else if x = k then ga L a else ga L x) ∧ But (fun x => x = g) w wq) (fun kv _ => i - (intOf kv).toNat)
      case atStart => exact ⟨a, L, rfl, Nat.le_refl _, by omega, hM, hB⟩
      case round =>
        obtain ⟨k, C, rfl, hk, hki, hJ, hBk⟩ := hrel
        by_cases hlt3 : k < i - 1
        · obtain ⟨ia0, ia1, ia2, ia3⟩ := hJ.out.1.cells (i := k) (by omega)
          obtain ⟨ib0, ib1, ib2, ib3⟩ := hJ.out.1.cells (i := k + 1) (by omega)
          have fr := hJ.out.1.free
          have hlen := hJ.out.1.lt
          have hw1 : IntKind.i64.wrap ((k : Int) + 1) = ((k + 1 : Nat) : Int) := by rw [IntKind.wrap_i64]; omega
          have hsw := hJ.out.1.sw hBk (i := k) (j := k + 1) (by omega) (by omega)
          have hm9 : Hid (Mix L (sw C k (k + 1)) a b ∧ ∀ x, ga (sw C k (k + 1)) x = if a ≤ x ∧ x < k + 1 then ga L (x + 1) else if x = k + 1 then ga L a else ga L x) := Lib.hid ⟨hJ.out.2.1.trans (Mix.sw hk (by omega) (by omega) (by omega) (by rw [hJ.out.1.1]; exact hbn)), fun x => by
            rw [sw_ga (by rw [hJ.out.1.1]; omega) (by rw [hJ.out.1.1]; omega), hJ.out.2.2, hJ.out.2.2, hJ.out.2.2]
            by_cases e1 : x = k + 1
            · rw [if_pos e1, if_neg (by omega), if_pos rfl, if_neg (by omega), if_pos e1]
            · rw [if_neg e1]
              by_cases e2 : x = k
              · rw [if_pos e2, if_neg (by omega), if_neg (by omega), if_pos (by omega), e2]
              · rw [if_neg e2]
                by_cases e3 : a ≤ x ∧ x < k
                · rw [if_pos e3, if_pos (by omega)]
                · rw [if_neg e3, if_neg e2, if_neg (by omega), if_neg e1]⟩
          clear hJ
          go_wp2
          go_region
          go_wp2
          go_roundw
          case rel => exact ⟨k + 1, _, by go_num, by omega, by omega, Lib.hid ⟨hsw.1.out, hm9.out⟩, hsw.2⟩
          case measure => (simp [intOf]) <;> omega
        · obtain rfl : k = i - 1 := by omega
          have hfin : Srtd C a b := one_left (i := i) (by omega) hj (hS.out.mono (by omega) (Nat.le_refl _)) hI.out.1 hI.out.2 fun x h1 h2 => by
            rw [hJ.out.2.2]
            by_cases e1 : x < i - 1
            · rw [if_pos (by omega), if_pos e1]
            · rw [if_neg (by omega), if_neg e1]
          go_wp2
          refine bodyPost_ret (v := .tuple #[]) (by simp [results, Tryz.results119, go_sem]) rfl ?_
          exact ⟨rfl, C, hJ.out.1, hJ.out.2.1, hfin, hBk⟩

end Go.Proofs.YtdgcgpapcbjfhaaGreatDoor

/- Rules sorted in place, by the library: two rows are merged, where the other is of one rule. -/
namespace Go.Proofs.YtdgcgpapcbjfhaaGreatDoor
open Go.RowKit

set_option maxRecDepth 100000 in
set_option maxHeartbeats 3200000 in
theorem pSymB (g cp n a m b : Nat) (L : List Rl) (ham : a + 1 < m) (hmb : b = m + 1) (hbn : b ≤ n) (hn : n ≤ 1000) (hs : Srtd L a m) (w : World) (h : InA w g cp n L) :
    Calls Tryz.prog 119 #[.slice (some ⟨g, 0, none⟩) n cp, .int .i64 a, .int .i64 m, .int .i64 b, .func (.func 61) #[] #[]] w fun e w' =>
      e = .returned (.tuple #[]) ∧ ∃ R, InA w' g cp n R ∧ Mix L R a b ∧ Srtd R a b ∧ But (fun x => x = g) w w' := by
  have hH := Lib.hid h
  have hS := Lib.hid hs
  clear h hs
  have hb1 : m + 1 ≤ b := by omega
  have hb2 : b ≤ m + 1 := by omega
  have he : ((m : Int) - (a : Int) == 1) = false := beq_eq_false_iff_ne.2 (by omega)
  have he2 : ((b : Int) - (m : Int) == 1) = true := by simp; omega
  clear hmb
  go_enter Tryz.func119, Tryz.ntmps119
  go_wp2
  go_loopw [14, 15] (fun iv jv wr => ∃ (i j : Nat), iv = .int .i64 i ∧ jv = .int .i64 j ∧ a ≤ i ∧ i ≤ j ∧ j ≤ m ∧ Hid ((∀ x, a ≤ x → x < i → ltA L m x = false) ∧ ∀ x, j ≤ x → x < m → ltA L m x = true) ∧ Ext w wr) (fun iv jv _ => (intOf jv).toNat - (intOf iv).toNat)
  case atStart => exact ⟨a, m, rfl, rfl, Nat.le_refl _, by omega, Nat.le_refl _, Lib.hid ⟨fun x h1 h2 => by omega, fun x h1 h2 => by omega⟩, Ext.refl _⟩
  case round =>
    obtain ⟨i, j, rfl, rfl, hi, hij, hj, hI, hx⟩ := hrel
    have hK := hH.out.ext hx
    by_cases hlt : i < j
    · obtain ⟨q, hq, hq1, hq2⟩ : ∃ q : Nat, ((i : Int) + (j : Int)) / 2 = (q : Int) ∧ i ≤ q ∧ q < j := ⟨(i + j) / 2, by omega, by omega, by omega⟩
      obtain ⟨ia0, ia1, ia2, ia3⟩ := hK.reads (i := m) (by omega)
      obtain ⟨ib0, ib1, ib2, ib3⟩ := hK.reads (i := q) (by omega)
      have hC := pCmp (ga L m) (ga L q)
      unfold rlV at hC
      have hlen := hK.lt
      have hz1 : (0 : Int) ≤ (q : Int) := by omega
      have hz2 : (q : Int) < (n : Int) := by omega
      have hz3 : (0 : Int) ≤ (m : Int) := by omega
      have hz4 : (m : Int) < (n : Int) := by omega
      cases hlt2 : ltA L m q with
      | true =>
        have hc := cmpI_lt hlt2
        have hN : Hid ((∀ x, a ≤ x → x < i → ltA L m x = false) ∧ ∀ x, q ≤ x → x < m → ltA L m x = true) := Lib.hid ⟨hI.out.1, fun x h1 h2 => lessB_lt_le hlt2 (hS.out.le (x := q) (y := x) (by omega) (by omega) (by omega))⟩
        clear hI hK
        generalize cmpI (ga L m).pre (ga L q).pre = c at *
        have hd : decide (c < 0) = true := by simp; omega
        go_wp2
        go_region_held3 (Ext wr) (first | exact Ext.trans (by assumption) hb | repeat (first | exact Ext.refl _ | assumption | apply Ext.drew | apply Ext.alloc | (refine Ext.setCell ?_ (by simp <;> omega) _) | refine Ext.trans ?_ (by assumption))) ((go_at_call 61; refine (hC _).mono ?_; rintro e w9 ⟨rfl, hb⟩))
        all_goals
          have hx9 : Ext w w9 := Ext.trans hx (by assumption)
          clear ia0 ia1 ia2 ia3 ib0 ib1 ib2 ib3
          go_wp2
          go_roundw
          case rel => exact ⟨i, q, rfl, by go_num, hi, by omega, by omega, hN, hx9⟩
          case measure => (simp [intOf]) <;> omega
      | false =>
        have hc := cmpI_ge hlt2
        have hN : Hid ((∀ x, a ≤ x → x < q + 1 → ltA L m x = false) ∧ ∀ x, j ≤ x → x < m → ltA L m x = true) := Lib.hid ⟨fun x h1 h2 => ltA_trans (y := q) (hS.out.le (x := x) (y := q) h1 (by omega) (by omega)) hlt2, hI.out.2⟩
        clear hI hK
        generalize cmpI (ga L m).pre (ga L q).pre = c at *
        have hd : decide (c < 0) = false := by simp; omega
        go_wp2
        go_region_held3 (Ext wr) (first | exact Ext.trans (by assumption) hb | repeat (first | exact Ext.refl _ | assumption | apply Ext.drew | apply Ext.alloc | (refine Ext.setCell ?_ (by simp <;> omega) _) | refine Ext.trans ?_ (by assumption))) ((go_at_call 61; refine (hC _).mono ?_; rintro e w9 ⟨rfl, hb⟩))
        all_goals
          have hx9 : Ext w w9 := Ext.trans hx (by assumption)
          clear ia0 ia1 ia2 ia3 ib0 ib1 ib2 ib3
          go_wp2
          go_roundw
          case rel => exact ⟨q + 1, j, by go_num, rfl, by omega, by omega, hj, hN, hx9⟩
          case measure => (simp [intOf]) <;> omega
    · obtain rfl : i = j := by omega
      have hB : But (fun x => x = g) w wr := But.of_ext hx
      have hM : Hid (InA wr g cp n L ∧ Mix L L a b ∧ ∀ x, ga L x = if m < x ∧ x ≤ m then ga L (x - 1) else if x = m then ga L m else ga L x) := Lib.hid ⟨hK, Mix.refl _ _ _, fun x => by
        rw [if_neg (by omega)]; split
        · rename_i e; rw [e]
        · rfl⟩
      clear hK
      go_wp2
      go_loopw [17] (fun kv wq => ∃ (k : Nat) (C : List Rl), kv = .int .i64 k ∧ i ≤ k ∧ k ≤ m ∧ Hid (InA wq g cp n C ∧ Mix L C a b ∧ ∀ x, ga C x = if k < x ∧ x ≤ m then ga L (x - 1) else if x = k then ga L m else ga L x) ∧ But (fun x => x = g) w wq) (fun kv _ => (intOf kv).toNat)
      case atStart => exact ⟨m, L, rfl, by omega, Nat.le_refl _, hM, hB⟩
      case round =>
        obtain ⟨k, C, rfl, hk, hki, hJ, hBk⟩ := hrel
        by_cases hlt3 : i < k
        · obtain ⟨ia0, ia1, ia2, ia3⟩ := hJ.out.1.cells (i := k) (by omega)
          obtain ⟨ib0, ib1, ib2, ib3⟩ := hJ.out.1.cells (i := k - 1) (by omega)
          have fr := hJ.out.1.free
          have hlen := hJ.out.1.lt
          have hw1 : IntKind.i64.wrap ((k : Int) - 1) = ((k - 1 : Nat) : Int) := by rw [IntKind.wrap_i64]; omega
          have hsw := hJ.out.1.sw hBk (i := k) (j := k - 1) (by omega) (by omega)
          have hm9 : Hid (Mix L (sw C k (k - 1)) a b ∧ ∀ x, ga (sw C k (k - 1)) x = if k - 1 < x ∧ x ≤ m then ga L (x - 1) else if x = k - 1 then ga L m else ga L x) := Lib.hid ⟨hJ.out.2.1.trans (Mix.sw (by omega) (by omega) (by omega) (by omega) (by rw [hJ.out.1.1]; exact hbn)), fun x => by
            rw [sw_ga (by rw [hJ.out.1.1]; omega) (by rw [hJ.out.1.1]; omega), hJ.out.2.2, hJ.out.2.2, hJ.out.2.2]
            by_cases e1 : x = k - 1
            · rw [if_pos e1, if_neg (by omega), if_pos rfl, if_neg (by omega), if_pos e1]
            · rw [if_neg e1]
              by_cases e2 : x = k
              · rw [if_pos e2, if_neg (by omega), if_neg (by omega), if_pos (by omega), e2]
              · rw [if_neg e2]
                by_cases e3 : k < x ∧ x ≤ m
                · rw [if_pos e3, if_pos (by omega)]
                · rw [if_neg e3, if_neg e2, if_neg (by omega), if_neg e1]⟩
          clear hJ
          go_wp2
          go_region
          go_wp2
          go_roundw
          case rel => exact ⟨k - 1, _, by go_num, by omega, by omega, Lib.hid ⟨hsw.1.out, hm9.out⟩, hsw.2⟩
          case measure => (simp [intOf]) <;> omega
        · obtain rfl : k = i := by omega
          have hbm : b = m + 1 := by omega
          have hfin : Srtd C a b := by
            rw [hbm]
            exact one_right (i := k) hi hki hS.out hI.out.1 hI.out.2 fun x h1 h2 => by
              rw [hJ.out.2.2]
              by_cases e1 : x < k
              · rw [if_neg (by omega), if_neg (by omega), if_pos e1]
              · rw [if_neg e1]
                by_cases e2 : x = k
                · rw [if_neg (by omega), if_pos e2, if_pos e2]
                · rw [if_pos (by omega), if_neg e2]
          go_wp2
          refine bodyPost_ret (v := .tuple #[]) (by simp [results, Tryz.results119, go_sem]) rfl ?_
          exact ⟨rfl, C, hJ.out.1, hJ.out.2.1, hfin, hBk⟩

end Go.Proofs.YtdgcgpapcbjfhaaGreatDoor
