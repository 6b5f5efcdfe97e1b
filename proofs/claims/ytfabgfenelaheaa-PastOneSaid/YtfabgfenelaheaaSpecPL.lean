/- Plain laws of histories; no program in sight. -/
import Derived.Test.YtfabgfenelaheaaSpecP
set_option linter.unusedVariables false
namespace Go.Proofs.Ytfabgfenelaheaa

/-- the numbers are so small that no sum goes round -/
def Sm (L : Evs) : Prop := ∀ e ∈ L, 0 ≤ e.1 ∧ e.1 ≤ 1099511627776 ∧ 0 ≤ e.2 ∧ e.2 ≤ 68719476736

theorem Sm.UL {L : Evs} (h : Sm L) : UL L := by
  rw [UL.mem]; intro e he; have := h e he; unfold U; omega

theorem Sm.tail {e : Int × Int} {L : Evs} (h : Sm (e :: L)) : Sm L := fun x hx => h x (by simp [hx])

theorem wsum_le {L : Evs} (h : Sm L) : 0 ≤ wsum L ∧ wsum L ≤ L.length * 68719476736 := by
  induction L with
  | nil => simp
  | cons e t ih =>
    have := ih h.tail
    have := h e (by simp)
    simp; omega

theorem usm_sm {L : Evs} (h : Sm L) (hl : L.length ≤ 1000) : usm L = wsum L := by
  have := wsum_le h
  unfold usm; omega

/-- as time goes on a history is less full, by just the time -/
theorem pfill_later {L : Evs} {now d : Int} (h : Sm L) (hl : L.length ≤ 1000) (hb : ∀ e ∈ L, e.1 ≤ now) (hd : 0 ≤ d) : pfill L (now + d) = usub (pfill L now) d := by
  induction L with
  | nil => unfold pfill usub; omega
  | cons e t ih =>
    have h1 := ih h.tail (by simp at hl; omega) (fun x hx => hb x (by simp [hx]))
    have h2 := hb e (by simp)
    have h3 := wsum_le h
    have h4 := usm_sm h hl
    have h5 := pfill_nn t now
    unfold pfill
    rw [h1, h4]
    unfold usub
    omega

theorem pfill_sum {L : Evs} {now : Int} (h : Sm L) (hl : L.length ≤ 1000) : pfill L now ≤ wsum L := by
  induction L with
  | nil => simp [pfill]
  | cons e t ih =>
    have h1 := ih h.tail (by simp at hl; omega)
    have h2 := h e (by simp)
    have h3 := wsum_le h.tail
    have h4 := usm_sm h hl
    unfold pfill
    rw [h4]
    have h5 := wsum_le h
    unfold usub
    simp at h5 ⊢
    omega

theorem pfill_gone {L : Evs} {last : Int} (h : Sm L) (hl : L.length ≤ 1000) (hb : ∀ e ∈ L, e.1 ≤ last) : pfill L (last + wsum L) = 0 := by
  rw [pfill_later h hl hb (wsum_le h).1]
  have := pfill_sum (now := last) h hl
  have := pfill_nn L last
  unfold usub; omega

theorem Sm.snoc {L : Evs} {e : Int × Int} (h : Sm L) (he : 0 ≤ e.1 ∧ e.1 ≤ 1099511627776 ∧ 0 ≤ e.2 ∧ e.2 ≤ 68719476736) : Sm (L ++ [e]) := by
  intro x hx
  rcases List.mem_append.1 hx with hx | hx
  · exact h x hx
  · simp at hx; subst hx; exact he

/-- one event more, now: as full as before, and its weight -/
theorem pfill_snoc {L : Evs} {t w : Int} (h : Sm (L ++ [(t, w)])) (hl : L.length < 1000) (hb : ∀ e ∈ L, e.1 ≤ t) : pfill (L ++ [(t, w)]) t = pfill L t + w := by
  induction L with
  | nil =>
    have := h (t, w) (by simp)
    simp [pfill, usm, usub]
    omega
  | cons e l ih =>
    have h1 := ih h.tail (by simp at hl; omega) (fun x hx => hb x (by simp [hx]))
    have h2 := hb e (by simp)
    have h3 := usm_sm h (by simp at hl ⊢; omega)
    have hL : Sm (e :: l) := fun x hx => h x (by simp at hx ⊢; rcases hx with hx | hx <;> simp [hx])
    have h4 := usm_sm hL (by simp at hl ⊢; omega)
    have h5 := wsum_le hL
    have h6 := pfill_nn l t
    have h7 := h (t, w) (by simp)
    have e1 : pfill (e :: l ++ [(t, w)]) t = max (usub (usm (e :: l ++ [(t, w)])) (usub t e.1)) (pfill (l ++ [(t, w)]) t) := rfl
    have e2 : pfill (e :: l) t = max (usub (usm (e :: l)) (usub t e.1)) (pfill l t) := rfl
    have e3 : wsum (e :: l ++ [(t, w)]) = wsum (e :: l) + w := by rw [wsum_append]; simp
    rw [e1, e2, h1, h3, h4, e3]
    unfold usub
    dsimp only at h7
    omega

theorem pconf_iff {L : Evs} {c : Int} : pconf L c = true ↔ ∀ j, j < L.length → pfill (L.take (j + 1)) (L.getD j (0, 0)).1 ≤ c := by
  unfold pconf; rw [decide_eq_true_eq]

/-- a history and one event more conforms, if it does itself, and is no fuller then -/
theorem pconf_snoc {L : Evs} {e : Int × Int} {c : Int} : pconf (L ++ [e]) c = (pconf L c && decide (pfill (L ++ [e]) e.1 ≤ c)) := by
  rw [Bool.eq_iff_iff, Bool.and_eq_true, pconf_iff, pconf_iff, decide_eq_true_eq]
  have hg : ∀ j, j < L.length → (L ++ [e]).take (j + 1) = L.take (j + 1) ∧ (L ++ [e]).getD j (0, 0) = L.getD j (0, 0) := fun j hj => by
    refine ⟨List.take_append_of_le_length (by omega), ?_⟩
    rw [List.getD_eq_getElem?_getD, List.getD_eq_getElem?_getD, List.getElem?_append_left hj]
  have hlast : (L ++ [e]).take (L.length + 1) = L ++ [e] ∧ (L ++ [e]).getD L.length (0, 0) = e := by
    refine ⟨List.take_of_length_le (by simp), ?_⟩
    simp
  constructor
  · intro h
    refine ⟨fun j hj => ?_, ?_⟩
    · have := h j (by simp; omega); rwa [(hg j hj).1, (hg j hj).2] at this
    · have := h L.length (by simp); rwa [hlast.1, hlast.2] at this
  · rintro ⟨h1, h2⟩ j hj
    simp at hj
    by_cases e1 : j = L.length
    · subst e1; rw [hlast.1, hlast.2]; exact h2
    · have hj' : j < L.length := by omega
      rw [(hg j hj').1, (hg j hj').2]; exact h1 j hj'

/-- what conforms conforms in parts -/
theorem pconf_part {L : Evs} {c : Int} (hc : 0 ≤ c) (h : pconf L c = true) (i j : Nat) (hj : j ≤ L.length) (hij : i ≤ j) : pconf ((L.take j).drop i) c = true := by
  rw [pconf_span hc, decide_eq_true_eq] at h ⊢
  intro q hq p hp
  simp at hq
  have := h (i + q) (by omega) (i + p) (by omega)
  unfold span at this ⊢
  have e1 : (((L.take j).drop i).take (q + 1)).drop p = (L.take (i + q + 1)).drop (i + p) := by
    rw [List.take_drop, List.drop_drop, List.take_take, show min (i + (q + 1)) j = i + q + 1 by omega]
  have e2 : ∀ r, r < j - i → ((L.take j).drop i).getD r (0, 0) = L.getD (i + r) (0, 0) := fun r hr => by
    rw [getD_drop, getD_take (by omega)]
  rw [e1, e2 q (by omega), e2 p (by omega)]
  exact this

theorem pconf_wide {L : Evs} {c c' : Int} (hcc : c ≤ c') (h : pconf L c = true) : pconf L c' = true := by
  rw [pconf_iff] at h ⊢
  intro j hj; have := h j hj; omega

theorem pconf_fine {L : Evs} {c : Int} (h : pconf L c = true) (h0 : 0 < L.length) : pfill L (L.getD (L.length - 1) (0, 0)).1 ≤ c := by
  rw [pconf_iff] at h
  have := h (L.length - 1) (by omega)
  rwa [show L.length - 1 + 1 = L.length by omega, List.take_of_length_le (Nat.le_refl _)] at this

/-- all moved in time -/
def shift (by_ : Int) (L : Evs) : Evs := L.map fun e => (e.1 + by_, e.2)

theorem wsum_shift (b : Int) (L : Evs) : wsum (shift b L) = wsum L := by
  induction L with
  | nil => rfl
  | cons e t ih => unfold shift at *; simp [ih]

theorem usm_shift (b : Int) (L : Evs) : usm (shift b L) = usm L := by unfold usm; rw [wsum_shift]

theorem pfill_shift (b : Int) (L : Evs) (now : Int) : pfill (shift b L) (now + b) = pfill L now := by
  induction L with
  | nil => rfl
  | cons e t ih =>
    have h1 : shift b (e :: t) = (e.1 + b, e.2) :: shift b t := rfl
    have h2 := usm_shift b (e :: t)
    rw [h1] at h2 ⊢
    unfold pfill
    rw [h2, ih]
    unfold usub
    omega

theorem shift_getD (b : Int) (L : Evs) (j : Nat) (hj : j < L.length) : ((shift b L).getD j (0, 0)).1 = (L.getD j (0, 0)).1 + b := by
  unfold shift
  rw [List.getD_eq_getElem?_getD, List.getD_eq_getElem?_getD, List.getElem?_map, List.getElem?_eq_getElem hj]
  rfl

theorem pconf_shift (b : Int) (L : Evs) (c : Int) : pconf (shift b L) c = pconf L c := by
  rw [Bool.eq_iff_iff, pconf_iff, pconf_iff]
  have hl : (shift b L).length = L.length := by simp [shift]
  have ht : ∀ j, (shift b L).take j = shift b (L.take j) := fun j => by simp [shift, List.map_take]
  constructor
  · intro h j hj
    have := h j (by omega)
    rwa [ht, shift_getD b L j hj, pfill_shift] at this
  · intro h j hj
    rw [hl] at hj
    rw [ht, shift_getD b L j hj, pfill_shift]
    exact h j hj

theorem shift_snoc (b : Int) (L : Evs) (t w : Int) : shift b L ++ [(t + b, w)] = shift b (L ++ [(t, w)]) := by simp [shift]

/-! one or two events at one time -/

theorem one_fill {t w d : Int} (hw : 0 ≤ w ∧ w ≤ 8589934590) (hd : 0 ≤ d) : pfill [(t, w)] (t + d) = if w > d then w - d else 0 := by
  simp [pfill, usm]; unfold usub; split <;> omega

theorem two_fill {t w v d : Int} (hw : 0 ≤ w ∧ w ≤ 4294967295) (hv : 0 ≤ v ∧ v ≤ 4294967295) (hd : 0 ≤ d) : pfill [(t, w), (t, v)] (t + d) = pfill [(t, w + v)] (t + d) := by
  simp [pfill, usm]; unfold usub; omega

theorem one_conf {t w c : Int} (hw : 0 ≤ w ∧ w ≤ 8589934590) (hc : 0 ≤ c) : pconf [(t, w)] c = decide (w ≤ c) := by
  have := one_fill (t := t) (d := 0) hw (by omega)
  rw [Int.add_zero] at this
  rw [Bool.eq_iff_iff, pconf_iff, decide_eq_true_eq]
  constructor
  · intro h; have := h 0 (by simp); simp at this; split at * <;> omega
  · intro h j hj; simp at hj; subst hj; simp; split at * <;> omega

theorem two_conf {t w v c : Int} (hw : 0 ≤ w ∧ w ≤ 4294967295) (hv : 0 ≤ v ∧ v ≤ 4294967295) (hc : 0 ≤ c) : pconf [(t, w), (t, v)] c = pconf [(t, w + v)] c := by
  have e : [(t, w), (t, v)] = [(t, w)] ++ [(t, v)] := rfl
  rw [e, pconf_snoc, one_conf (by omega) hc, one_conf (by omega) hc]
  have h1 := two_fill (t := t) (d := 0) hw hv (by omega)
  have h2 := one_fill (t := t) (w := w + v) (d := 0) (by omega) (by omega)
  rw [Int.add_zero] at h1 h2
  rw [← e]
  dsimp only
  rw [h1, h2, Bool.eq_iff_iff]
  simp
  split <;> omega

end Go.Proofs.Ytfabgfenelaheaa
