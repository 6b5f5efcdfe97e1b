/- Rows of events in memory. -/
import Derived.Test.YtfabgfenelaheaaNum
import Derived.Test.YtfabgfenelaheaaSpecP
import Derived.OwnWalk
import Derived.Laws.AppendOwn
import Derived.Laws.OwnMore
set_option linter.unusedVariables false
namespace Go.Proofs.Ytfabgfenelaheaa
open Go.RowKit

theorem maxLen_lit : maxLen = 9223372036854775807 := by decide

/-- A row of events in memory. -/
def IsEv (w : World) (a : Option Addr) (len cap : Nat) (L : List (Int × Int)) : Prop :=
  len = L.length ∧ (len ≤ cap ∧ cap ≤ maxLen ∧ (a = none → cap = 0)) ∧ (∀ i, i < L.length → U (L.getD i (0, 0)).1 ∧ U (L.getD i (0, 0)).2) ∧
  (len = 0 ∨ ∃ b off, a = some ⟨b, off, none⟩ ∧ b < w.heap.size ∧ ∀ i, i < L.length → w.cell? ⟨b, off + i * 2, none⟩ = some (.int .u64 (L.getD i (0, 0)).1) ∧ w.cell? ⟨b, off + i * 2 + 1, none⟩ = some (.int .u64 (L.getD i (0, 0)).2))

theorem IsEv.below {w w' : World} {a : Option Addr} {len cap : Nat} {L : List (Int × Int)} (h : IsEv w a len cap L) (hb : Ext w w') : IsEv w' a len cap L := by
  obtain ⟨h1, h2, h3, h4⟩ := h
  refine ⟨h1, h2, h3, ?_⟩
  rcases h4 with h | ⟨b, off, e, hlt, hc⟩
  · exact .inl h
  · exact .inr ⟨b, off, e, Nat.lt_of_lt_of_le hlt hb.size, fun i hi => ⟨hb.reads (hc i hi).1, hb.reads (hc i hi).2⟩⟩

abbrev evV (e : Int × Int) : Value := .agg #[.int .u64 e.1, .int .u64 e.2]

theorem IsEv.take {w : World} {a : Option Addr} {len cap k : Nat} {L : List (Int × Int)} (h : IsEv w a len cap L) (hk : k ≤ len) : IsEv w a k cap (L.take k) := by
  obtain ⟨h1, ⟨h2, h2', h2n⟩, h3, h4⟩ := h
  refine ⟨by simp; omega, ⟨by omega, h2', h2n⟩, UL.take h3 k, ?_⟩
  rcases h4 with h | ⟨b, off, e, hlt, hc⟩
  · exact .inl (by omega)
  · refine .inr ⟨b, off, e, hlt, fun i hi => ?_⟩
    simp at hi
    rw [getD_take (by omega)]
    exact hc i (by omega)

theorem IsEv.drop {w : World} {b off len cap k : Nat} {L : List (Int × Int)} (h : IsEv w (some ⟨b, off, none⟩) len cap L) (hk : k ≤ len) : IsEv w (some ⟨b, off + k * 2, none⟩) (len - k) (cap - k) (L.drop k) := by
  obtain ⟨h1, ⟨h2, h2', h2n⟩, h3, h4⟩ := h
  refine ⟨by simp; omega, ⟨by omega, by omega, fun h => (by cases h)⟩, UL.drop h3 k, ?_⟩
  rcases h4 with h | ⟨b', off', e, hlt, hc⟩
  · exact .inl (by omega)
  · cases e
    refine .inr ⟨b, _, rfl, hlt, fun i hi => ?_⟩
    simp at hi
    rw [getD_drop]
    have := hc (k + i) (by omega)
    rw [show off + k * 2 + i * 2 = off + (k + i) * 2 by omega]
    exact this

theorem IsEv.at {w : World} {a : Option Addr} {len cap : Nat} {L : List (Int × Int)} (h : IsEv w a len cap L) (h0 : 0 < len) :
    ∃ b off, a = some ⟨b, off, none⟩ ∧ ∀ i, i < len → w.cell? ⟨b, off + i * 2, none⟩ = some (.int .u64 (L.getD i (0, 0)).1) ∧ w.cell? ⟨b, off + i * 2 + 1, none⟩ = some (.int .u64 (L.getD i (0, 0)).2) := by
  obtain ⟨h1, _, _, h | ⟨b, off, e, _, hc⟩⟩ := h
  · omega
  · exact ⟨b, off, e, fun i hi => hc i (by omega)⟩

/-- the cells of a row of events -/
def flat : List (Int × Int) → List Value
  | [] => []
  | e :: t => .int .u64 e.1 :: .int .u64 e.2 :: flat t

theorem flat_length (L : List (Int × Int)) : (flat L).length = L.length * 2 := by
  induction L with
  | nil => rfl
  | cons e t ih => simp [flat, ih]; omega

theorem flat_append (L M : List (Int × Int)) : flat (L ++ M) = flat L ++ flat M := by
  induction L with
  | nil => rfl
  | cons e t ih => simp [flat, ih]

theorem flat_get (L : List (Int × Int)) (i : Nat) (h : i < L.length) : (flat L)[i * 2]? = some (.int .u64 (L.getD i (0, 0)).1) ∧ (flat L)[i * 2 + 1]? = some (.int .u64 (L.getD i (0, 0)).2) := by
  induction L generalizing i with
  | nil => simp at h
  | cons e t ih =>
    cases i with
    | zero => simp [flat]
    | succ i =>
      simp at h
      have := ih i h
      rw [show (i + 1) * 2 = i * 2 + 1 + 1 by omega]
      simpa [flat] using this

theorem flat_one (L : List (Int × Int)) : ∀ u ∈ flat L, u.oneCell' = true := by
  induction L with
  | nil => simp [flat]
  | cons e t ih => intro u hu; simp [flat] at hu; rcases hu with rfl | rfl | hu <;> first | (simp [Value.oneCell']; done) | exact ih u hu

theorem IsEv.news {w : World} {b off len cap : Nat} {L : List (Int × Int)} (h : IsEv w (some ⟨b, off, none⟩) len cap L) : ∀ j u, (flat L)[j]? = some u → w.cell? ((⟨b, off, none⟩ : Addr).add j) = some u := by
  intro j u hu
  have hj : j < (flat L).length := (List.getElem?_eq_some_iff.1 hu).1
  rw [flat_length] at hj
  obtain ⟨b', off', e, hc⟩ := h.at (by have := h.1; omega)
  cases e
  have h1 := h.1
  have e1 : (⟨b, off, none⟩ : Addr).add j = ⟨b, off + j, none⟩ := by simp [Addr.add]
  rw [e1]
  obtain ⟨i, hi | hi⟩ : ∃ i, j = i * 2 ∨ j = i * 2 + 1 := ⟨j / 2, by omega⟩
  · subst hi
    rw [(flat_get L i (by omega)).1] at hu
    rw [← hu]; exact (hc i (by omega)).1
  · subst hi
    rw [(flat_get L i (by omega)).2] at hu
    rw [← hu, ← Nat.add_assoc]; exact (hc i (by omega)).2

end Go.Proofs.Ytfabgfenelaheaa
