/- Rules sorted in place, by the library: insertion. -/
import Derived.Test.YtdgcgpapcbjfhaaGreatDoorJ08Srt
import Derived.Test.YtdgcgpapcbjfhaaGreatDoorJ14CfgO
import Derived.Laws.Cover1
import Derived.RegionTactic
import Derived.Deep.RegionHeld3
set_option linter.unusedVariables false
set_option linter.unusedSimpArgs false

/- Rules in an array of the call's own. -/
namespace Go.Proofs.YtdgcgpapcbjfhaaGreatDoor
open Go.RowKit

/-- rules in an array -/
def InA (w : World) (g cp n : Nat) (L : List Rl) : Prop := L.length = n ∧ w.ownsRow 0 47 4 (.slice (some ⟨g, 0, none⟩) n cp) n (rlCells L)

theorem rlCells_set : ∀ (L : List Rl) (i : Nat) (r : Rl), i < L.length → rlCells (L.set i r) =
    ((((rlCells L).set (i * 4) (.string (strOf r.pre))).set (i * 4 + 1) (.int .u64 r.ev)).set (i * 4 + 2) (.int .u64 r.bu)).set (i * 4 + 3) (.int .u8 (r.kd : Int))
  | [], i, r, h => by simp at h
  | x :: L, 0, r, h => by simp [rlCells]
  | x :: L, i + 1, r, h => by
    rw [List.set_cons_succ, rlCells, rlCells_set L i r (by simpa using h), rlCells, show (i + 1) * 4 = i * 4 + 4 by omega]
    simp

theorem InA.put {w : World} {g cp n : Nat} {L : List Rl} (h : InA w g cp n L) {i : Nat} (hi : i < n) (r : Rl) :
    InA ((((w.setCell ⟨g, i * 4, none⟩ (.string (strOf r.pre))).setCell ⟨g, i * 4 + 1, none⟩ (.int .u64 r.ev)).setCell ⟨g, i * 4 + 2, none⟩ (.int .u64 r.bu)).setCell ⟨g, i * 4 + 3, none⟩ (.int .u8 (r.kd : Int))) g cp n (L.set i r) := by
  refine ⟨by simpa using h.1, ?_⟩
  rw [rlCells_set L i r (by rw [h.1]; exact hi)]
  exact (World.ownsRow.stored (World.ownsRow.stored (World.ownsRow.stored (World.ownsRow.stored h.2 _ _).1 _ _).1 _ _).1 _ _).1
theorem InA.lt {w : World} {g cp n : Nat} {L : List Rl} (h : InA w g cp n L) : g < w.heap.size ∧ n ≤ cp ∧ cp ≤ maxLen := by
  rcases h.2.2 with ⟨hv, hn⟩ | ⟨g', cp', cur, hv, _, hh, hnc, hcm, _, _⟩
  · simp at hv
  · simp at hv
    obtain ⟨rfl, rfl⟩ := hv
    exact ⟨(Array.getElem?_eq_some_iff.1 hh).1, hnc, hcm⟩
theorem InA.cells {w : World} {g cp n : Nat} {L : List Rl} (h : InA w g cp n L) {i : Nat} (hi : i < n) :
    w.cell? ⟨g, i * 4, none⟩ = some (.string (strOf (ga L i).pre)) ∧ w.cell? ⟨g, i * 4 + 1, none⟩ = some (.int .u64 (ga L i).ev) ∧ w.cell? ⟨g, i * 4 + 2, none⟩ = some (.int .u64 (ga L i).bu) ∧ w.cell? ⟨g, i * 4 + 3, none⟩ = some (.int .u8 ((ga L i).kd : Int)) := by
  have hA := World.ownsRow.cellAt h.2
  obtain ⟨h0, h1, h2, h3⟩ := rlCells_get L i (by rw [h.1]; exact hi)
  refine ⟨?_, ?_, ?_, ?_⟩
  · rw [hA _ (by omega)]; exact h0
  · rw [hA _ (by omega)]; exact h1
  · rw [hA _ (by omega)]; exact h2
  · rw [hA _ (by omega)]; exact h3
theorem InA.free {w : World} {g cp n : Nat} {L : List Rl} (h : InA w g cp n L) (j : Nat) : w.frozen? ⟨g, j, none⟩ = false := World.ownsRow.frozenAt h.2 j
theorem InA.ext {w w' : World} {g cp n : Nat} {L : List Rl} (h : InA w g cp n L) (hx : Ext w w') : InA w' g cp n L := ⟨h.1, owns_ext h.2 hx⟩
theorem InA.reads {w : World} {g cp n : Nat} {L : List Rl} (h : InA w g cp n L) {i : Nat} (hi : i < n) :
    (∀ w', Ext w w' → w'.cell? ⟨g, i * 4, none⟩ = some (.string (strOf (ga L i).pre))) ∧ (∀ w', Ext w w' → w'.cell? ⟨g, i * 4 + 1, none⟩ = some (.int .u64 (ga L i).ev)) ∧ (∀ w', Ext w w' → w'.cell? ⟨g, i * 4 + 2, none⟩ = some (.int .u64 (ga L i).bu)) ∧ ∀ w', Ext w w' → w'.cell? ⟨g, i * 4 + 3, none⟩ = some (.int .u8 ((ga L i).kd : Int)) :=
  ⟨fun w' hx => ((h.ext hx).cells hi).1, fun w' hx => ((h.ext hx).cells hi).2.1, fun w' hx => ((h.ext hx).cells hi).2.2.1, fun w' hx => ((h.ext hx).cells hi).2.2.2⟩
theorem InA.at {w : World} {g cp n : Nat} {L : List Rl} (h : InA w g cp n L) (hn : 0 < n) : RulesAt w (.slice (some ⟨g, 0, none⟩) n cp) L := by
  refine ⟨fun e => ?_, ?_⟩
  · have := h.1; rw [e] at this; simp at this; omega
  · rw [h.1]; exact h.2
theorem InA.of {w : World} {g cp n : Nat} {L : List Rl} (h : RulesAt w (.slice (some ⟨g, 0, none⟩) n cp) L) : InA w g cp n L := by
  have hn : L.length = n := by
    rcases h.2.2 with ⟨hv, _⟩ | ⟨g', cp', cur, hv, _⟩
    · simp at hv
    · simp at hv; exact hv.2.1.symm
  refine ⟨hn, ?_⟩
  have := h.2; rw [hn] at this; exact this

theorem InA.sw {w w0 : World} {g cp n : Nat} {L : List Rl} (h : InA w g cp n L) (hB : But (fun x => x = g) w0 w) {i j : Nat} (hi : i < n) (hj : j < n) :
    Hid (InA ((((((((w.setCell ⟨g, i * 4, none⟩ (.string (strOf (ga L j).pre))).setCell ⟨g, i * 4 + 1, none⟩ (.int .u64 (ga L j).ev)).setCell ⟨g, i * 4 + 2, none⟩ (.int .u64 (ga L j).bu)).setCell ⟨g, i * 4 + 3, none⟩ (.int .u8 ((ga L j).kd : Int))).setCell ⟨g, j * 4, none⟩ (.string (strOf (ga L i).pre))).setCell ⟨g, j * 4 + 1, none⟩ (.int .u64 (ga L i).ev)).setCell ⟨g, j * 4 + 2, none⟩ (.int .u64 (ga L i).bu)).setCell ⟨g, j * 4 + 3, none⟩ (.int .u8 ((ga L i).kd : Int))).drew g cp n (sw L i j)) ∧
    But (fun x => x = g) w0 ((((((((w.setCell ⟨g, i * 4, none⟩ (.string (strOf (ga L j).pre))).setCell ⟨g, i * 4 + 1, none⟩ (.int .u64 (ga L j).ev)).setCell ⟨g, i * 4 + 2, none⟩ (.int .u64 (ga L j).bu)).setCell ⟨g, i * 4 + 3, none⟩ (.int .u8 ((ga L j).kd : Int))).setCell ⟨g, j * 4, none⟩ (.string (strOf (ga L i).pre))).setCell ⟨g, j * 4 + 1, none⟩ (.int .u64 (ga L i).ev)).setCell ⟨g, j * 4 + 2, none⟩ (.int .u64 (ga L i).bu)).setCell ⟨g, j * 4 + 3, none⟩ (.int .u8 ((ga L i).kd : Int))).drew :=
  ⟨Lib.hid (((h.put hi (ga L j)).put hj (ga L i)).ext ((Ext.refl _).drew)), ((((((((hB.setCell rfl _).setCell rfl _).setCell rfl _).setCell rfl _).setCell rfl _).setCell rfl _).setCell rfl _).setCell rfl _).drew⟩

end Go.Proofs.YtdgcgpapcbjfhaaGreatDoor

/- Rules are compared by their prefixes. -/
namespace Go.Proofs.YtdgcgpapcbjfhaaGreatDoor
open Go.RowKit

theorem bytesLess_lessB : ∀ a b : List UInt8, Op.bytesLess a b = lessB a b
  | [], [] => rfl
  | _ :: _, [] => rfl
  | [], _ :: _ => rfl
  | x :: xs, y :: ys => by
    rw [Op.bytesLess, lessB, bytesLess_lessB xs ys]
    by_cases e : x = y
    · subst e
      have : ¬ x < x := UInt8.lt_irrefl x
      simp [this]
    · rw [if_neg e]
      have : (x == y) = false := beq_eq_false_iff_ne.2 e
      rw [this]
      simp [UInt8.lt_iff_toNat_lt]

/-- how two texts compare -/
def cmpI (a b : List UInt8) : Int := if lessB a b then -1 else if lessB b a then 1 else 0
theorem cmpI_lt {a b : List UInt8} (h : lessB a b = true) : cmpI a b < 0 := by unfold cmpI; rw [if_pos h]; decide
theorem cmpI_ge {a b : List UInt8} (h : lessB a b = false) : 0 ≤ cmpI a b := by
  unfold cmpI; rw [if_neg (by simp [h])]; split <;> decide
theorem cmpI_rng (a b : List UInt8) : -1 ≤ cmpI a b ∧ cmpI a b ≤ 1 := by unfold cmpI; split <;> (try split) <;> decide

theorem pNaN (s : ByteArray) (w : World) : Calls Tryz.prog 86 #[.string s] w fun e w' => e = .returned (.bool false) ∧ w' = w := by
  go_enter Tryz.func86, Tryz.ntmps86
  go_wp2
  go_ret
  all_goals exact ⟨by simp, rfl⟩

set_option maxRecDepth 100000 in
set_option maxHeartbeats 1600000 in
theorem pCompare (a b : List UInt8) (w : World) : Calls Tryz.prog 62 #[.string (strOf a), .string (strOf b)] w fun e w' => e = .returned (.int .i64 (cmpI a b)) ∧ Ext w w' := by
  have hN1 := pNaN (strOf a)
  have hN2 := pNaN (strOf b)
  have e1 : Op.bytesLess (strOf a).toList (strOf b).toList = lessB a b := by rw [bytesLess_lessB, toList_bs, toList_bs, bs_strOf, bs_strOf]
  have e2 : Op.bytesLess (strOf b).toList (strOf a).toList = lessB b a := by rw [bytesLess_lessB, toList_bs, toList_bs, bs_strOf, bs_strOf]
  have e3 : ((strOf a).toList == (strOf b).toList) = decide (a = b) := strEq a b
  have hc : cmpI a b = if lessB a b then -1 else if lessB b a then 1 else 0 := rfl
  have hq : lessB a b = false → (decide (a = b)) = !(lessB b a) := fun h => by
    cases h2 : lessB b a with
    | true => simp; intro e; subst e; rw [lessB_irrefl] at h2; cases h2
    | false => simp; exact lessB_tri a b h h2
  generalize cmpI a b = c at *
  generalize lessB a b = X at *
  generalize lessB b a = Y at *
  generalize decide (a = b) = Z at *
  generalize strOf a = A at *
  generalize strOf b = B at *
  have hcH := Lib.hid hc
  have hqH := Lib.hid hq
  clear hc hq
  cases X
  · have hZ := hqH.out rfl
    subst hZ
    cases Y
    · obtain rfl : c = 0 := by have := hcH.out; simpa using this
      clear hcH hqH
      go_enter Tryz.func62, Tryz.ntmps62
      go_wp2_with (go_at_call_of 86 A; refine (hN1 _).mono ?_; rintro e w1 ⟨rfl, rfl⟩)
      go_wp2_with (go_at_call_of 86 B; refine (hN2 _).mono ?_; rintro e w1 ⟨rfl, rfl⟩)
      go_wp2
      go_ret
      exact ⟨rfl, by repeat (first | exact Ext.refl _ | assumption | apply Ext.drew | apply Ext.alloc | (refine Ext.setCell ?_ (by simp <;> omega) _) | refine Ext.trans ?_ (by assumption))⟩
    · obtain rfl : c = 1 := by have := hcH.out; simpa using this
      clear hcH hqH
      go_enter Tryz.func62, Tryz.ntmps62
      go_wp2_with (go_at_call_of 86 A; refine (hN1 _).mono ?_; rintro e w1 ⟨rfl, rfl⟩)
      go_wp2_with (go_at_call_of 86 B; refine (hN2 _).mono ?_; rintro e w1 ⟨rfl, rfl⟩)
      go_wp2
      go_ret
      exact ⟨rfl, by repeat (first | exact Ext.refl _ | assumption | apply Ext.drew | apply Ext.alloc | (refine Ext.setCell ?_ (by simp <;> omega) _) | refine Ext.trans ?_ (by assumption))⟩
  · obtain rfl : c = -1 := by have := hcH.out; simpa using this
    clear hcH hqH
    go_enter Tryz.func62, Tryz.ntmps62
    go_wp2_with (go_at_call_of 86 A; refine (hN1 _).mono ?_; rintro e w1 ⟨rfl, rfl⟩)
    go_wp2_with (go_at_call_of 86 B; refine (hN2 _).mono ?_; rintro e w1 ⟨rfl, rfl⟩)
    go_wp2
    go_ret
    exact ⟨rfl, by repeat (first | exact Ext.refl _ | assumption | apply Ext.drew | apply Ext.alloc | (refine Ext.setCell ?_ (by simp <;> omega) _) | refine Ext.trans ?_ (by assumption))⟩

set_option maxHeartbeats 1600000 in
theorem pCmp (r s : Rl) (w : World) : Calls Tryz.prog 61 #[rlV r, rlV s] w fun e w' => e = .returned (.int .i64 (cmpI r.pre s.pre)) ∧ Ext w w' := by
  have hC := pCompare r.pre s.pre
  unfold rlV
  obtain ⟨c, hc⟩ : ∃ c, cmpI r.pre s.pre = c := ⟨_, rfl⟩
  rw [hc] at hC ⊢
  clear hc
  generalize strOf r.pre = A at *
  generalize strOf s.pre = B at *
  go_enter Tryz.func61, Tryz.ntmps61
  go_wp2_with (go_at_call 62; refine (hC _).mono ?_; rintro e w1 ⟨rfl, hb⟩)
  go_wp2
  go_ret
  exact ⟨rfl, by repeat (first | exact Ext.refl _ | assumption | apply Ext.drew | apply Ext.alloc | (refine Ext.setCell ?_ (by simp <;> omega) _) | refine Ext.trans ?_ (by assumption))⟩

end Go.Proofs.YtdgcgpapcbjfhaaGreatDoor

/- Rules sorted in place, by the library: changing places, turning. -/
namespace Go.Proofs.YtdgcgpapcbjfhaaGreatDoor
open Go.RowKit

set_option maxRecDepth 100000 in
set_option maxHeartbeats 1600000 in
theorem pSwapR (fv : Value) (g cp n a b k : Nat) (L : List Rl) (h1 : a + k ≤ b) (h2 : b + k ≤ n) (hn : n ≤ 1000) (w : World) (h : InA w g cp n L) :
    Calls Tryz.prog 190 #[.slice (some ⟨g, 0, none⟩) n cp, .int .i64 a, .int .i64 b, .int .i64 k, fv] w fun e w' =>
      e = .returned (.tuple #[]) ∧ InA w' g cp n (swapR L a b k) ∧ But (fun x => x = g) w w' := by
  have hH := Lib.hid h
  clear h
  go_enter Tryz.func190, Tryz.ntmps190
  go_wp2
  go_loopw [10] (fun i wr => ∃ t : Nat, t ≤ k ∧ i = .int .i64 t ∧ Hid (InA wr g cp n (swapR L a b t)) ∧ But (fun x => x = g) w wr) (fun i _ => k - (intOf i).toNat)
  case atStart => exact ⟨0, Nat.zero_le _, rfl, hH, But.refl _ _⟩
  case round =>
    obtain ⟨t, ht, rfl, hI, hB⟩ := hrel
    by_cases hlt : t < k
    · obtain ⟨ia0, ia1, ia2, ia3⟩ := hI.out.cells (i := a + t) (by omega)
      obtain ⟨ib0, ib1, ib2, ib3⟩ := hI.out.cells (i := b + t) (by omega)
      have fr := hI.out.free
      have hlen := hI.out.lt
      have hsw := hI.out.sw hB (i := a + t) (j := b + t) (by omega) (by omega)
      rw [show sw (swapR L a b t) (a + t) (b + t) = swapR L a b (t + 1) from rfl] at hsw
      clear hI
      go_wp2
      go_region
      go_wp2
      go_roundw
      case rel => exact ⟨t + 1, by omega, by go_num, hsw.1, hsw.2⟩
      case measure => (simp [intOf]) <;> omega
    · obtain rfl : t = k := by omega
      go_wp2
      go_end0
      exact ⟨rfl, hI.out, hB⟩

set_option maxRecDepth 100000 in
set_option maxHeartbeats 1600000 in
theorem pRotate (g cp n a m b : Nat) (L : List Rl) (h1 : a < m) (h2 : m < b) (hb : b ≤ n) (hn : n ≤ 1000) (w : World) (h : InA w g cp n L) :
    Calls Tryz.prog 155 #[.slice (some ⟨g, 0, none⟩) n cp, .int .i64 a, .int .i64 m, .int .i64 b, .func (.func 61) #[] #[]] w fun e w' =>
      e = .returned (.tuple #[]) ∧ ∃ R, InA w' g cp n R ∧ Mix L R a b ∧ (∀ x, ga R x = rotF L a m b x) ∧ But (fun x => x = g) w w' := by
  have hH := Lib.hid h
  clear h
  generalize (.func (.func 61) #[] #[] : Value) = fv at *
  have e0 : Hid (∀ x, rotF L (m - (m - a)) m (m + (b - m)) x = rotF L a m b x) := Lib.hid (fun x => by rw [show m - (m - a) = a by omega, show m + (b - m) = b by omega])
  go_enter Tryz.func155, Tryz.ntmps155
  go_wp2
  go_loopw [10, 11] (fun iv jv wr => ∃ (i j : Nat) (C : List Rl), iv = .int .i64 i ∧ jv = .int .i64 j ∧ 0 < i ∧ 0 < j ∧ a + i ≤ m ∧ m + j ≤ b ∧ Hid (InA wr g cp n C ∧ Mix L C a b ∧ ∀ x, rotF C (m - i) m (m + j) x = rotF L a m b x) ∧ But (fun x => x = g) w wr) (fun iv jv _ => (intOf iv).toNat + (intOf jv).toNat)
  case atStart => exact ⟨m - a, b - m, L, by go_num, by go_num, by omega, by omega, by omega, by omega, Lib.hid ⟨hH.out, Mix.refl _ _ _, e0.out⟩, But.refl _ _⟩
  case round =>
    obtain ⟨i, j, C, rfl, rfl, hi, hj, hai, hmj, hI, hB⟩ := hrel
    by_cases hij : i = j
    · subst hij
      have hC := pSwapR fv g cp n (m - i) m i C (by omega) (by omega) hn wr hI.out.1
      rw [show ((m - i : Nat) : Int) = (m : Int) - (i : Int) by omega] at hC
      go_wp2_with fail
      refine hC.mono ?_
      rintro e w1 ⟨rfl, k1, k2⟩
      go_wp2
      go_end0
      refine ⟨rfl, _, k1, hI.out.2.1.trans (swapR_mix i (by omega) hmj (by omega) (by rw [hI.out.1.1]; exact hb)), fun x => ?_, hB.trans k2⟩
      rw [← hI.out.2.2 x]
      exact rot_even (by omega) (by rw [hI.out.1.1]; omega) x
    · have hne : ((i : Int) != (j : Int)) = true := by simp; omega
      by_cases hlt : j < i
      · have hC := pSwapR fv g cp n (m - i) m j C (by omega) (by omega) hn wr hI.out.1
        rw [show ((m - i : Nat) : Int) = (m : Int) - (i : Int) by omega] at hC
        go_wp2_with fail
        refine hC.mono ?_
        rintro e w1 ⟨rfl, k1, k2⟩
        have k3 : Hid (InA w1 g cp n (swapR C (m - i) m j) ∧ Mix L (swapR C (m - i) m j) a b ∧ ∀ x, rotF (swapR C (m - i) m j) (m - (i - j)) m (m + j) x = rotF L a m b x) := Lib.hid ⟨k1, hI.out.2.1.trans (swapR_mix j (by omega) hmj (by omega) (by rw [hI.out.1.1]; exact hb)), fun x => by
          rw [← hI.out.2.2 x, show m - (i - j) = m - i + j by omega]
          exact rot_left hlt (by omega) (by rw [hI.out.1.1]; omega) x⟩
        clear k1 hI
        go_wp2
        go_roundw
        case rel => exact ⟨i - j, j, _, by go_num, rfl, by omega, hj, by omega, hmj, k3, hB.trans k2⟩
        case measure => (simp [intOf]) <;> omega
      · have hC := pSwapR fv g cp n (m - i) (m + j - i) i C (by omega) (by omega) hn wr hI.out.1
        rw [show ((m - i : Nat) : Int) = (m : Int) - (i : Int) by omega, show ((m + j - i : Nat) : Int) = (m : Int) + (j : Int) - (i : Int) by omega] at hC
        go_wp2_with fail
        refine hC.mono ?_
        rintro e w1 ⟨rfl, k1, k2⟩
        have k3 : Hid (InA w1 g cp n (swapR C (m - i) (m + j - i) i) ∧ Mix L (swapR C (m - i) (m + j - i) i) a b ∧ ∀ x, rotF (swapR C (m - i) (m + j - i) i) (m - i) m (m + (j - i)) x = rotF L a m b x) := Lib.hid ⟨k1, hI.out.2.1.trans (swapR_mix i (by omega) (by omega) (by omega) (by rw [hI.out.1.1]; exact hb)), fun x => by
          rw [← hI.out.2.2 x]
          exact rot_right (by omega) (by omega) (by rw [hI.out.1.1]; omega) x⟩
        clear k1 hI
        go_wp2
        go_roundw
        case rel => exact ⟨i, j - i, _, rfl, by go_num, hi, by omega, hai, by omega, k3, hB.trans k2⟩
        case measure => (simp [intOf]) <;> omega

end Go.Proofs.YtdgcgpapcbjfhaaGreatDoor

/- Rules sorted in place, by the library: insertion. -/
namespace Go.Proofs.YtdgcgpapcbjfhaaGreatDoor
open Go.RowKit

/-- that comparing, as the library hands it on -/
def fCmp : Value := .func (.func 61) #[] #[]

set_option maxRecDepth 100000 in
set_option maxHeartbeats 3200000 in
theorem pIns (g cp n a b : Nat) (L : List Rl) (hab : a ≤ b) (hbn : b ≤ n) (hn : n ≤ 1000) (w : World) (h : InA w g cp n L) :
    Calls Tryz.prog 118 #[.slice (some ⟨g, 0, none⟩) n cp, .int .i64 a, .int .i64 b, .func (.func 61) #[] #[]] w fun e w' =>
      e = .returned (.tuple #[]) ∧ ∃ R, InA w' g cp n R ∧ Mix L R a b ∧ Srtd R a b ∧ But (fun x => x = g) w w' := by
  have hH := Lib.hid h
  clear h
  go_enter Tryz.func118, Tryz.ntmps118
  go_wp2
  go_loopw [8] (fun iv wr => ∃ (i : Nat) (C : List Rl), iv = .int .i64 i ∧ a + 1 ≤ i ∧ i ≤ max b (a + 1) ∧ Hid (InA wr g cp n C ∧ Mix L C a b ∧ Srtd C a i) ∧ But (fun x => x = g) w wr) (fun iv _ => b - (intOf iv).toNat)
  case atStart => exact ⟨a + 1, L, by go_num, Nat.le_refl _, by omega, Lib.hid ⟨hH.out, Mix.refl _ _ _, Srtd.none _ (by omega)⟩, But.refl _ _⟩
  case round =>
    obtain ⟨i, C, rfl, hi, hib, hI, hB⟩ := hrel
    by_cases hlt : i < b
    · have hJ : Hid (InA wr g cp n C ∧ Mix L C a b ∧ InsI C a i i) := Lib.hid ⟨hI.out.1, hI.out.2.1, InsI.start hI.out.2.2⟩
      clear hI
      go_wp2
      go_loopw [9] (fun jv wq => ∃ (j : Nat) (D : List Rl), jv = .int .i64 j ∧ a ≤ j ∧ j ≤ i ∧ Hid (InA wq g cp n D ∧ Mix L D a b ∧ InsI D a i j) ∧ But (fun x => x = g) w wq) (fun jv _ => (intOf jv).toNat)
      case atStart => exact ⟨i, C, rfl, by omega, Nat.le_refl _, hJ, hB⟩
      case round =>
        obtain ⟨j, D, rfl, haj, hji, hK, hBq⟩ := hrel
        by_cases ha : a < j
        · obtain ⟨ia0, ia1, ia2, ia3⟩ := hK.out.1.reads (i := j) (by omega)
          obtain ⟨ib0, ib1, ib2, ib3⟩ := hK.out.1.reads (i := j - 1) (by omega)
          have hC := pCmp (ga D j) (ga D (j - 1))
          unfold rlV at hC
          have hlen := hK.out.1.lt
          have hw1 : IntKind.i64.wrap ((j : Int) - 1) = ((j - 1 : Nat) : Int) := by rw [IntKind.wrap_i64]; omega
          have hq1 : (0 : Int) ≤ (j : Int) := by omega
          have hq2 : (j : Int) < (n : Int) := by omega
          have hq3 : (0 : Int) ≤ ((j - 1 : Nat) : Int) := by omega
          have hq4 : ((j - 1 : Nat) : Int) < (n : Int) := by omega
          cases hlt2 : ltA D j (j - 1) with
          | true =>
            have hc := cmpI_lt hlt2
            generalize cmpI (ga D j).pre (ga D (j - 1)).pre = c at *
            go_wp2
            go_region_held3 (Ext wr) (first | exact Ext.trans (by assumption) hb | repeat (first | exact Ext.refl _ | assumption | apply Ext.drew | apply Ext.alloc | (refine Ext.setCell ?_ (by simp <;> omega) _) | refine Ext.trans ?_ (by assumption))) ((go_at_call 61; refine (hC _).mono ?_; rintro e w9 ⟨rfl, hb⟩))
            all_goals
              have hx9 : Ext wr w9 := by assumption
              have hK9 := hK.out.1.ext hx9
              have hB9 := hBq.trans (But.of_ext hx9)
              have hm9 : Hid (Mix L (sw D j (j - 1)) a b ∧ InsI (sw D j (j - 1)) a i (j - 1)) := Lib.hid ⟨hK.out.2.1.trans (Mix.sw haj (by omega) (by omega) (by omega) (by rw [hK.out.1.1]; exact hbn)), hK.out.2.2.step ha hji (by rw [hK.out.1.1]; omega) hlt2⟩
              have hsw := hK9.sw hB9 (i := j) (j := j - 1) (by omega) (by omega)
              clear ia0 ia1 ia2 ia3 ib0 ib1 ib2 ib3
              obtain ⟨ia0, ia1, ia2, ia3⟩ := hK9.cells (i := j) (by omega)
              obtain ⟨ib0, ib1, ib2, ib3⟩ := hK9.cells (i := j - 1) (by omega)
              have fr := hK9.free
              have hlen9 := hK9.lt
              clear hK9 hK
              go_wp2
              go_region
              go_wp2
              go_roundw
              case rel => exact ⟨j - 1, _, by go_num, by omega, by omega, Lib.hid ⟨hsw.1.out, hm9.out⟩, hsw.2⟩
              case measure => (simp [intOf]) <;> omega
          | false =>
            have hc := cmpI_ge hlt2
            generalize cmpI (ga D j).pre (ga D (j - 1)).pre = c at *
            go_wp2
            go_region_held3 (Ext wr) (first | exact Ext.trans (by assumption) hb | repeat (first | exact Ext.refl _ | assumption | apply Ext.drew | apply Ext.alloc | (refine Ext.setCell ?_ (by simp <;> omega) _) | refine Ext.trans ?_ (by assumption))) ((go_at_call 61; refine (hC _).mono ?_; rintro e w9 ⟨rfl, hb⟩))
            all_goals
              have hx9 : Ext wr w9 := by assumption
              have hB9 := hBq.trans (But.of_ext hx9)
              have hm9 : Hid (InA w9 g cp n D ∧ Mix L D a b ∧ Srtd D a (i + 1)) := Lib.hid ⟨hK.out.1.ext hx9, hK.out.2.1, hK.out.2.2.done haj hji (.inr hlt2)⟩
              clear hK
              go_wp2
              go_roundw
              case rel => exact ⟨i + 1, D, by go_num, by omega, by omega, hm9, hB9⟩
              case measure => (simp [intOf]) <;> omega
        · obtain rfl : j = a := by omega
          have hm9 : Hid (InA wr.drew g cp n D ∧ Mix L D j b ∧ Srtd D j (i + 1)) := Lib.hid ⟨hK.out.1.ext ((Ext.refl _).drew), hK.out.2.1, hK.out.2.2.done haj hji (.inl rfl)⟩
          clear hK
          go_wp2
          go_region
          go_wp2
          go_roundw
          case rel => exact ⟨i + 1, D, by go_num, by omega, by omega, hm9, hBq.drew⟩
          case measure => (simp [intOf]) <;> omega
    · go_wp2
      go_end0
      exact ⟨rfl, C, hI.out.1, hI.out.2.1, hI.out.2.2.mono (Nat.le_refl _) (by omega), hB⟩

end Go.Proofs.YtdgcgpapcbjfhaaGreatDoor
