/- Plain numbers: histories of events; no program in sight. -/
import Derived.Test.YtfabgfenelaheaaSpec
set_option linter.unusedVariables false
namespace Go.Proofs.Ytfabgfenelaheaa

abbrev Evs := List (Int × Int)

/-- both numbers of each event are numbers of 64 bits -/
def UL (L : Evs) : Prop := ∀ i, i < L.length → U (L.getD i (0, 0)).1 ∧ U (L.getD i (0, 0)).2

theorem UL.mem {L : Evs} : UL L ↔ ∀ e ∈ L, U e.1 ∧ U e.2 := by
  constructor
  · intro h e he
    obtain ⟨i, hi, rfl⟩ := List.mem_iff_getElem.1 he
    have := h i hi
    rwa [List.getD_eq_getElem?_getD, List.getElem?_eq_getElem hi] at this
  · intro h i hi
    rw [List.getD_eq_getElem?_getD, List.getElem?_eq_getElem hi]
    exact h _ (List.getElem_mem hi)

/-- what all weigh -/
def wsum (L : Evs) : Int := (L.map (·.2)).sum

@[simp] theorem wsum_nil : wsum [] = 0 := rfl
@[simp] theorem wsum_cons (e : Int × Int) (L : Evs) : wsum (e :: L) = e.2 + wsum L := by simp [wsum]
theorem wsum_append (L M : Evs) : wsum (L ++ M) = wsum L + wsum M := by simp [wsum]

theorem wsum_nn {L : Evs} (h : UL L) : 0 ≤ wsum L := by
  rw [UL.mem] at h
  induction L with
  | nil => simp
  | cons e t ih =>
    have := ih (fun x hx => h x (by simp [hx]))
    have := (h e (by simp)).2.1
    simp; omega

/-- what all weigh, or the end -/
def usm (L : Evs) : Int := min (wsum L) 18446744073709551615

theorem usm_U {L : Evs} (h : UL L) : U (usm L) := by have := wsum_nn h; unfold usm U; omega

theorem usm_nil : usm [] = 0 := rfl

theorem usm_cons {e : Int × Int} {L : Evs} (h : UL (e :: L)) : uadd (usm L) e.2 = usm (e :: L) := by
  have h' := h
  rw [UL.mem] at h'
  have hL : UL L := by rw [UL.mem]; exact fun x hx => h' x (by simp [hx])
  have := wsum_nn hL
  have := (h' e (by simp)).2
  unfold U at this
  unfold uadd usm
  simp; omega

theorem usm_snoc {e : Int × Int} {L : Evs} (h : UL (L ++ [e])) : uadd (usm L) e.2 = usm (L ++ [e]) := by
  have h' := h
  rw [UL.mem] at h'
  have hL : UL L := by rw [UL.mem]; exact fun x hx => h' x (by simp [hx])
  have := wsum_nn hL
  have := (h' e (by simp)).2
  unfold U at this
  unfold uadd usm
  rw [wsum_append]
  simp; omega

theorem UL.drop {L : Evs} (h : UL L) (k : Nat) : UL (L.drop k) := by
  rw [UL.mem] at *; exact fun x hx => h x (List.mem_of_mem_drop hx)
theorem UL.take {L : Evs} (h : UL L) (k : Nat) : UL (L.take k) := by
  rw [UL.mem] at *; exact fun x hx => h x (List.mem_of_mem_take hx)
theorem UL.cons {e : Int × Int} {L : Evs} (h : UL (e :: L)) : UL L := by
  rw [UL.mem] at *; exact fun x hx => h x (by simp [hx])
theorem UL.head {e : Int × Int} {L : Evs} (h : UL (e :: L)) : U e.1 ∧ U e.2 := by
  rw [UL.mem] at h; exact h e (by simp)
theorem UL.snoc {e : Int × Int} {L : Evs} (h : UL L) (h1 : U e.1) (h2 : U e.2) : UL (L ++ [e]) := by
  rw [UL.mem] at *
  intro x hx
  rcases List.mem_append.1 hx with hx | hx
  · exact h x hx
  · simp at hx; subst hx; exact ⟨h1, h2⟩
theorem UL.nil : UL [] := fun i hi => by simp at hi

/-- how full a history is: the most of what each suffix weighs, less what has passed since its first event -/
def pfill : Evs → Int → Int
  | [], _ => 0
  | e :: t, now => max (usub (usm (e :: t)) (usub now e.1)) (pfill t now)

theorem pfill_nn (L : Evs) (now : Int) : 0 ≤ pfill L now := by
  induction L with
  | nil => simp [pfill]
  | cons e t ih => unfold pfill; omega

theorem pfill_U {L : Evs} (h : UL L) (now : Int) (hn : U now) : U (pfill L now) := by
  induction L with
  | nil => unfold pfill U; omega
  | cons e t ih =>
    have h1 := ih h.cons
    have h2 := usub_U (usm_U h) (usub_U hn h.head.1)
    unfold pfill
    unfold U at *
    omega

theorem drop_cons {L : Evs} {k : Nat} (hk : k < L.length) : L.drop k = L.getD k (0, 0) :: L.drop (k + 1) := by
  rw [List.drop_eq_getElem_cons hk, List.getD_eq_getElem?_getD, List.getElem?_eq_getElem hk]; rfl

theorem take_snoc {L : Evs} {k : Nat} (hk : k < L.length) : L.take (k + 1) = L.take k ++ [L.getD k (0, 0)] := by
  rw [List.take_add_one, List.getD_eq_getElem?_getD, List.getElem?_eq_getElem hk]; simp

theorem usm_drop {L : Evs} (h : UL L) {k : Nat} (hk : k < L.length) : uadd (usm (L.drop (k + 1))) (L.getD k (0, 0)).2 = usm (L.drop k) := by
  have := h.drop k
  rw [drop_cons hk] at this ⊢
  exact usm_cons this

theorem usm_take {L : Evs} (h : UL L) {k : Nat} (hk : k < L.length) : uadd (usm (L.take k)) (L.getD k (0, 0)).2 = usm (L.take (k + 1)) := by
  have := h.take (k + 1)
  rw [take_snoc hk] at this ⊢
  exact usm_snoc this

theorem pfill_drop {L : Evs} {k : Nat} (hk : k < L.length) (now : Int) : pfill (L.drop k) now = max (usub (usm (L.drop k)) (usub now (L.getD k (0, 0)).1)) (pfill (L.drop (k + 1)) now) := by
  conv => lhs; rw [drop_cons hk]
  rw [pfill, ← drop_cons hk]

/-- a history is no fuller than a cap just if no suffix is -/
theorem pfill_le {L : Evs} {now c : Int} (hc : 0 ≤ c) : pfill L now ≤ c ↔ ∀ i, i < L.length → usub (usm (L.drop i)) (usub now (L.getD i (0, 0)).1) ≤ c := by
  induction L with
  | nil => simp [pfill, hc]
  | cons e t ih =>
    unfold pfill
    constructor
    · intro h i hi
      cases i with
      | zero => simp; omega
      | succ i => simp at hi; have := (ih.1 (by omega)) i hi; simpa using this
    · intro h
      have h0 := h 0 (by simp)
      have h1 := ih.2 (fun i hi => by have := h (i + 1) (by simp; omega); simpa using this)
      simp at h0
      omega

/-- a history conforms: at each event it is no fuller than the cap -/
def pconf (L : Evs) (c : Int) : Bool := decide (∀ j, j < L.length → pfill (L.take (j + 1)) (L.getD j (0, 0)).1 ≤ c)

/-- from event i on, up to event j: what these weigh, less the time between -/
def span (L : Evs) (i j : Nat) : Int := usub (usm ((L.take (j + 1)).drop i)) (usub (L.getD j (0, 0)).1 (L.getD i (0, 0)).1)

theorem getD_take {L : Evs} {i n : Nat} (h : i < n) : (L.take n).getD i (0, 0) = L.getD i (0, 0) := by
  rw [List.getD_eq_getElem?_getD, List.getD_eq_getElem?_getD, List.getElem?_take_of_lt h]

theorem getD_drop (L : Evs) (i n : Nat) : (L.drop n).getD i (0, 0) = L.getD (n + i) (0, 0) := by
  rw [List.getD_eq_getElem?_getD, List.getD_eq_getElem?_getD, List.getElem?_drop]

theorem pconf_span {L : Evs} {c : Int} (hc : 0 ≤ c) : pconf L c = decide (∀ j, j < L.length → ∀ i, i < j + 1 → span L i j ≤ c) := by
  unfold pconf
  rw [decide_eq_decide]
  constructor
  · intro h j hj i hij
    have := (pfill_le hc).1 (h j hj) i (by simp; omega)
    rw [getD_take (by omega)] at this
    exact this
  · intro h j hj
    refine (pfill_le hc).2 (fun i hi => ?_)
    simp at hi
    rw [getD_take (by omega)]
    exact h j hj i (by omega)

def prises (L : Evs) : Bool := decide (∀ k, k < L.length - 1 → (L.getD k (0, 0)).1 ≤ (L.getD (k + 1) (0, 0)).1)

end Go.Proofs.Ytfabgfenelaheaa
