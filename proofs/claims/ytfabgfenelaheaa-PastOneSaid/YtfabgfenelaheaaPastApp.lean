/- Events: rows that are made and grow. -/
import Derived.Test.YtfabgfenelaheaaEv
import Derived.RegionTactic
import Derived.Deep.QuietTactic
import Derived.BigQuiet
import Derived.Lib.LazyBuf
set_option linter.unusedVariables false
namespace Go.Proofs.Ytfabgfenelaheaa
open Go.RowKit

attribute [local go_sem] ite_min ite_max

theorem infoE : (Try.prog.info? 29).map (fun i => (i.zero, i.size, i.bytes)) = some (some (.agg #[.int .u64 0, .int .u64 0]), 2, 16) := by kernel_rfl

/-- an owned row of events, as a slice -/
def OwnEv (w : World) (base : Nat) (v : Value) (L : List (Int × Int)) : Prop := w.ownsRow base 29 2 v L.length (flat L)

theorem OwnEv.nil (w : World) (base : Nat) : OwnEv w base (.slice none 0 0) [] := World.ownsRow_nil w base _ _

theorem OwnEv.ev {w : World} {base : Nat} {v : Value} {L : List (Int × Int)} (h : OwnEv w base v L) (hU : UL L) :
    ∃ a cap, v = .slice a L.length cap ∧ IsEv w a L.length cap L ∧ (∀ b off, a = some ⟨b, off, none⟩ → base ≤ b) := by
  have h' := h
  obtain ⟨hl, ⟨hv, hn⟩ | ⟨g, cap, cur, hv, hg, hh, hnc, hcm, hsz, htake⟩⟩ := h'
  · refine ⟨none, 0, by rw [hv, hn], ⟨rfl, ⟨by omega, by unfold maxLen; omega, fun _ => rfl⟩, hU, .inl hn⟩, fun b off h => by cases h⟩
  · subst hv
    refine ⟨_, cap, rfl, ⟨rfl, ⟨hnc, hcm, fun h => by cases h⟩, hU, .inr ⟨g, 0, rfl, (Array.getElem?_eq_some_iff.1 hh).1, fun i hi => ?_⟩⟩, fun b off h => by cases h; exact hg⟩
    have f := flat_get L i hi
    have c := fun j hj => World.ownsRow.cellAt h j hj
    rw [Nat.zero_add]
    exact ⟨(c (i * 2) (by omega)).trans f.1, (c (i * 2 + 1) (by omega)).trans f.2⟩

theorem OwnEv.ext {w w' : World} {base : Nat} {v : Value} {L : List (Int × Int)} (h : OwnEv w base v L) (hx : Ext w w') : OwnEv w' base v L :=
  World.ownsRow.kept h (row := none) ⟨hx.os, hx.tape, hx.output, hx.size, fun k hk _ => Below.block hx k hk⟩ (by
    cases hv : v.ownBlock with
    | none => exact .inl rfl
    | some k => exact .inr (by simp))

theorem OwnEv.base {w : World} {base base' : Nat} {v : Value} {L : List (Int × Int)} (h : OwnEv w base v L) (hb : base' ≤ base) : OwnEv w base' v L := by
  obtain ⟨hl, h | ⟨g, cap, cur, hv, hg, rest⟩⟩ := h
  · exact ⟨hl, .inl h⟩
  · exact ⟨hl, .inr ⟨g, cap, cur, hv, Nat.le_trans hb hg, rest⟩⟩

theorem ext_own {w wr w1 : World} {v : Value} {L : List (Int × Int)} (h : Ext w wr) (hown : OwnEv wr w.heap.size v L) (hg : wr.grownBy w1 v.ownBlock) : Ext w w1 := by
  refine Below.grown h hg h.size ?_
  intro k hk
  exact (World.ownsRow.lt hown k hk).1

set_option maxRecDepth 20000 in
set_option maxHeartbeats 1000000 in
theorem pClone (a : Option Addr) (len cap : Nat) (L : List (Int × Int)) (w : World) (hI : IsEv w a len cap L) (h64 : len ≤ 1000) :
    Calls Try.prog 45 #[.slice a len cap] w fun e w' => ∃ v, e = .returned v ∧ OwnEv w' w.heap.size v L ∧ Ext w w' := by
  obtain ⟨i0, hi, hz0, hz1, hz2⟩ := info_parts infoE
  obtain rfl := hI.1
  have hq := fun (w : World) (a : Option Addr) (l c : Nat) => run_eql_slice_nil (P := Try.prog) w 22 29 a l c Try.underlying22
  cases a with
  | none =>
    have hc := hI.2.1.2.2 rfl
    have hl : L.length = 0 := by have := hI.2.1.1; omega
    have hL : L = [] := List.eq_nil_of_length_eq_zero hl
    rw [hl, hc, hL]
    clear hI hl hL h64 hc
    go_enter Try.func45, Try.ntmps45
    go_wp2
    go_ret
    exact ⟨_, rfl, OwnEv.nil _ _, Ext.refl _⟩
  | some ad =>
    have hnews : ∀ (w' : World), Ext w w' → ∀ j u, (flat L)[j]? = some u → w'.cell? (ad.add j) = some u := by
      intro w' hx j u hu
      have h0 : 0 < L.length := by
        have hj : j < (flat L).length := (List.getElem?_eq_some_iff.1 hu).1
        rw [flat_length] at hj; omega
      obtain ⟨b, off, e, _⟩ := hI.at h0
      cases e
      exact (hI.below hx).news j u hu
    have HN := Lib.hid hnews
    clear hI hnews
    go_enter Try.func45, Try.ntmps45
    go_wp2_with (at_builtin; refine wpList_append_own _ rfl _ _ 22 rfl w.heap.size 29 i0 (.agg #[.int .u64 0, .int .u64 0]) 2 16 Try.underlying22 hi hz0 hz1 hz2 rfl (by decide) _ 0 [] rfl ?c0 ad L.length cap (flat L) rfl (flat_length L) (HN.out _ ((Ext.refl w).alloc _)) (flat_one L) (by unfold maxLen; omega) (by omega) (by simp) ?_)
    case c0 => exact World.ownsRow_made w #[] 0 (Nat.le_refl _) (by unfold maxLen; omega) rfl
    intro v' w1 hown hgrow _
    have hx : Ext w w1 := ext_own (L := []) ((Ext.refl w).alloc _) (World.ownsRow_made w #[] 0 (Nat.le_refl _) (by unfold maxLen; omega) rfl) hgrow
    go_wp2
    go_ret
    exact ⟨v', rfl, hown, hx⟩

end Go.Proofs.Ytfabgfenelaheaa
