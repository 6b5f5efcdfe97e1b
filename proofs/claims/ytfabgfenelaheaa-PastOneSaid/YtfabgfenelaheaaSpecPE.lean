/- Plain numbers: events of choices; the meter; no program in sight. -/
import Derived.Test.YtfabgfenelaheaaSpecPL
import Derived.Test.YtfabgfenelaheaaSpecM
set_option linter.unusedVariables false
namespace Go.Proofs.Ytfabgfenelaheaa

/-- of the step k: Z k 0 the wait, Z k 1 the weight, Z k 2 how big, Z k 3 the kind -/
def OkZ (Z : Nat → Nat → Int) (n : Nat) : Prop := ∀ k, k < n → (0 ≤ Z k 0 ∧ Z k 0 ≤ 4294967295) ∧ (0 ≤ Z k 1 ∧ Z k 1 ≤ 65535) ∧ (0 ≤ Z k 2 ∧ Z k 2 ≤ 255) ∧ (0 ≤ Z k 3 ∧ Z k 3 ≤ 255)

def evD (Z : Nat → Nat → Int) (k : Nat) : Int := Z k 0 / 2 ^ (Z k 2 % 32).toNat
def evW (Z : Nat → Nat → Int) (k : Nat) : Int := Z k 1 * 2 ^ (Z k 2 % 20).toNat
def evAt (Z : Nat → Nat → Int) : Nat → Int
  | 0 => 0
  | k + 1 => evAt Z k + evD Z k
def evs (Z : Nat → Nat → Int) (n : Nat) : Evs := (List.range n).map fun k => (evAt Z (k + 1), evW Z k)

theorem evs_zero (Z : Nat → Nat → Int) : evs Z 0 = [] := rfl
theorem evs_succ (Z : Nat → Nat → Int) (n : Nat) : evs Z (n + 1) = evs Z n ++ [(evAt Z (n + 1), evW Z n)] := by simp [evs, List.range_succ]
theorem evs_length (Z : Nat → Nat → Int) (n : Nat) : (evs Z n).length = n := by simp [evs]
theorem evs_getD (Z : Nat → Nat → Int) (n k : Nat) (h : k < n) : (evs Z n).getD k (0, 0) = (evAt Z (k + 1), evW Z k) := by
  unfold evs
  rw [List.getD_eq_getElem?_getD, List.getElem?_map, List.getElem?_range h]
  rfl

theorem pow_le (b m : Int) (hb : 0 ≤ b) (hm : 0 ≤ m) : ∀ n k : Nat, n ≤ k → (2 : Int) ^ n ≤ 2 ^ k := by
  intro n k h
  obtain ⟨d, rfl⟩ := Nat.exists_eq_add_of_le h
  rw [Int.pow_add]
  have h1 : (0 : Int) < 2 ^ n := Int.pow_pos (by omega)
  have h2 : (0 : Int) < 2 ^ d := Int.pow_pos (by omega)
  have := Int.mul_le_mul_of_nonneg_left (show (1 : Int) ≤ 2 ^ d by omega) (Int.le_of_lt h1)
  omega

theorem evD_le {Z : Nat → Nat → Int} {n k : Nat} (h : OkZ Z n) (hk : k < n) : 0 ≤ evD Z k ∧ evD Z k ≤ 4294967295 := by
  obtain ⟨⟨h1, h2⟩, _⟩ := h k hk
  have hp : (0 : Int) < 2 ^ (Z k 2 % 32).toNat := Int.pow_pos (by omega)
  exact ⟨Int.ediv_nonneg h1 (Int.le_of_lt hp), Int.le_trans (Int.ediv_le_self _ h1) h2⟩

theorem evW_le {Z : Nat → Nat → Int} {n k : Nat} (h : OkZ Z n) (hk : k < n) : 0 ≤ evW Z k ∧ evW Z k ≤ 34359214080 := by
  obtain ⟨_, ⟨h1, h2⟩, ⟨h3, h4⟩, _⟩ := h k hk
  have hp : (0 : Int) < 2 ^ (Z k 2 % 20).toNat := Int.pow_pos (by omega)
  have hq := pow_le 0 0 (by omega) (by omega) (Z k 2 % 20).toNat 19 (by omega)
  unfold evW
  refine ⟨Int.mul_nonneg h1 (Int.le_of_lt hp), ?_⟩
  have := Int.mul_le_mul h2 hq (Int.le_of_lt hp) (by omega)
  exact Int.le_trans this (by decide)

theorem evAt_le {Z : Nat → Nat → Int} {n : Nat} (h : OkZ Z n) : ∀ k, k ≤ n → 0 ≤ evAt Z k ∧ evAt Z k ≤ k * 4294967295 := by
  intro k
  induction k with
  | zero => intro _; simp [evAt]
  | succ k ih =>
    intro hk
    have h1 := ih (by omega)
    have h2 := evD_le h (show k < n by omega)
    simp only [evAt]
    omega

theorem evAt_mono {Z : Nat → Nat → Int} {n : Nat} (h : OkZ Z n) : ∀ k j, j ≤ k → k ≤ n → evAt Z j ≤ evAt Z k := by
  intro k
  induction k with
  | zero => intro j hj _; have : j = 0 := by omega
            subst this; omega
  | succ k ih =>
    intro j hj hk
    by_cases e : j = k + 1
    · subst e; omega
    · have h1 := ih j (by omega) (by omega)
      have h2 := evD_le h (show k < n by omega)
      simp only [evAt]
      omega

theorem OkZ.le {Z : Nat → Nat → Int} {n m : Nat} (h : OkZ Z n) (hm : m ≤ n) : OkZ Z m := fun k hk => h k (by omega)

theorem evs_mem {Z : Nat → Nat → Int} {n : Nat} {e : Int × Int} (he : e ∈ evs Z n) : ∃ k, k < n ∧ e = (evAt Z (k + 1), evW Z k) := by
  unfold evs at he
  simp at he
  obtain ⟨k, hk, rfl⟩ := he
  exact ⟨k, hk, rfl⟩

theorem evs_sm {Z : Nat → Nat → Int} {n : Nat} (h : OkZ Z n) (hn : n ≤ 40) : Sm (evs Z n) := by
  intro e he
  obtain ⟨k, hk, rfl⟩ := evs_mem he
  have h1 := evAt_le h (k + 1) (by omega)
  have h2 := evW_le h hk
  dsimp only
  omega

theorem evs_past {Z : Nat → Nat → Int} {n : Nat} (h : OkZ Z n) : ∀ e ∈ evs Z n, e.1 ≤ evAt Z n := by
  intro e he
  obtain ⟨k, hk, rfl⟩ := evs_mem he
  exact evAt_mono h n (k + 1) (by omega) (by omega)

theorem evs_rises {Z : Nat → Nat → Int} {n : Nat} (h : OkZ Z n) : prises (evs Z n) = true := by
  unfold prises
  rw [decide_eq_true_eq]
  intro k hk
  rw [evs_length] at hk
  rw [evs_getD Z n k (by omega), evs_getD Z n (k + 1) (by omega)]
  exact evAt_mono h (k + 2) (k + 1) (by omega) (by omega)

/-! the meter -/

/-- a history and a meter tell the same, at a time and ever after -/
structure Mt (L : Evs) (A B m now : Int) : Prop where
  sm : Sm L
  past : ∀ e ∈ L, e.1 ≤ now
  conf : pconf L m = true
  rise : prises L = true
  b0 : 0 ≤ B
  b1 : B ≤ now
  a0 : 0 ≤ A
  a1 : A ≤ 18446744073709551615
  same : ∀ t, now ≤ t → pfill L t = lfill A B t

theorem Mt.start (m : Int) : Mt [] 0 0 m 0 :=
  ⟨fun _ h => by simp at h, fun _ h => by simp at h, by rw [pconf_iff]; intro j hj; simp at hj, by unfold prises; simp, by omega, by omega, by omega, by omega,
   fun t h => by simp [pfill]; unfold lfill usub; omega⟩

theorem prises_snoc {L : Evs} {e : Int × Int} (h : prises L = true) (hb : ∀ x ∈ L, x.1 ≤ e.1) : prises (L ++ [e]) = true := by
  unfold prises at *
  rw [decide_eq_true_eq] at *
  intro k hk
  simp at hk
  have h1 : (L ++ [e]).getD k (0, 0) = L.getD k (0, 0) := by rw [List.getD_eq_getElem?_getD, List.getD_eq_getElem?_getD, List.getElem?_append_left hk]
  rw [h1]
  by_cases e1 : k + 1 = L.length
  · have h2 : (L ++ [e]).getD (k + 1) (0, 0) = e := by rw [e1]; simp
    rw [h2, List.getD_eq_getElem?_getD, List.getElem?_eq_getElem hk]
    exact hb _ (List.getElem_mem hk)
  · have h2 : (L ++ [e]).getD (k + 1) (0, 0) = L.getD (k + 1) (0, 0) := by rw [List.getD_eq_getElem?_getD, List.getD_eq_getElem?_getD, List.getElem?_append_left (by omega)]
    rw [h2]; exact h k (by omega)

theorem Mt.step {L : Evs} {A B m now t w : Int} (h : Mt L A B m now) (hl : L.length < 1000) (ht : now ≤ t) (hm : 0 ≤ m) (ht2 : t ≤ 1099511627776) (hw : 0 ≤ w ∧ w ≤ 68719476736) :
    pconf (L ++ [(t, w)]) m = lok A B t m w ∧
    Mt (if lok A B t m w then L ++ [(t, w)] else L) (lA A B t m w) (lB A B t m w) m t := by
  have hpast : ∀ e ∈ L, e.1 ≤ t := fun e he => Int.le_trans (h.past e he) ht
  have hn0 := h.b0
  have hn1 := h.b1
  have hsm : Sm (L ++ [(t, w)]) := h.sm.snoc (e := (t, w)) ⟨by dsimp only; omega, ht2, hw.1, hw.2⟩
  have hsn := pfill_snoc hsm hl hpast
  have hs := h.same t ht
  have h1 : pconf (L ++ [(t, w)]) m = lok A B t m w := by
    rw [pconf_snoc, h.conf, Bool.true_and]
    dsimp only
    rw [hsn, hs]
    unfold lok fits
    rfl
  refine ⟨h1, ?_⟩
  by_cases hc : lfill A B t + w ≤ m
  · have hk : lok A B t m w = true := by unfold lok fits; exact decide_eq_true hc
    rw [hk, if_pos rfl]
    unfold lA lB
    rw [if_pos hc, if_pos hc]
    have hf0 : 0 ≤ pfill L t := pfill_nn L t
    have hf1 := pfill_sum (now := t) h.sm (by omega)
    have hf2 := wsum_le h.sm
    refine ⟨hsm, ?_, by rw [h1, hk], prises_snoc h.rise hpast, by omega, by omega, by omega, by omega, ?_⟩
    · intro e he
      rcases List.mem_append.1 he with he | he
      · exact hpast e he
      · simp at he; subst he; dsimp only; omega
    · intro t' ht'
      have := pfill_later (L := L ++ [(t, w)]) (now := t) (d := t' - t) hsm (by simp; omega) (fun e he => by
        rcases List.mem_append.1 he with he | he
        · exact hpast e he
        · simp at he; subst he; dsimp only; omega) (by omega)
      rw [show t + (t' - t) = t' by omega, hsn, hs] at this
      rw [this]
      unfold lfill usub at *
      omega
  · have hk : lok A B t m w = false := by unfold lok fits; exact decide_eq_false hc
    rw [hk, if_neg (by simp)]
    unfold lA lB
    rw [if_neg hc, if_neg hc]
    exact ⟨h.sm, hpast, h.conf, h.rise, h.b0, by omega, h.a0, h.a1, fun t' ht' => h.same t' (by omega)⟩

end Go.Proofs.Ytfabgfenelaheaa
