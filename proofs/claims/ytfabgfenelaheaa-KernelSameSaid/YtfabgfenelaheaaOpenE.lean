/- Rows of events and of steps that came in. -/
import Derived.Test.YtfabgfenelaheaaOpenS
import Derived.Test.YtfabgfenelaheaaPastEvt
import Derived.OpenShut
import Derived.Lib.SmallJoins
import Derived.RowKit
set_option linter.unusedVariables false
namespace Go.Proofs.Ytfabgfenelaheaa
open Go.RowKit Go.Deep Go.WideShapes Go.ChangeShapes

/-- the events of a row -/
def evOf (Z : Nat → Nat → Int) (n : Nat) : Evs := (List.range n).map fun i => (Z i 0, Z i 1)

theorem evOf_getD (Z : Nat → Nat → Int) (n i : Nat) (h : i < n) : (evOf Z n).getD i (0, 0) = (Z i 0, Z i 1) := by
  unfold evOf
  rw [List.getD_eq_getElem?_getD, List.getElem?_map, List.getElem?_range h]
  rfl

theorem recs_ev {w : World} {a : Option Addr} {len cap : Nat} {Z : Nat → Nat → Int} (h : IsRecs [.u64, .u64] w a len cap Z) : IsEv w a len cap (evOf Z len) := by
  obtain ⟨h1, h2⟩ := h
  have hl : (evOf Z len).length = len := by simp [evOf]
  refine ⟨hl.symm, h1, ?_, ?_⟩
  · intro i hi
    rw [hl] at hi
    rw [evOf_getD Z len i hi]
    rcases h2 with h2 | ⟨b, off, _, hc⟩
    · omega
    · have := bounds_u64 (hc i hi 0 .u64 rfl).2
      have := bounds_u64 (hc i hi 1 .u64 rfl).2
      constructor <;> assumption
  · rcases h2 with h2 | ⟨b, off, e, hc⟩
    · exact .inl h2
    · by_cases h0 : len = 0
      · exact .inl h0
      refine .inr ⟨b, off, e, ?_, fun i hi => ?_⟩
      · exact World.block_lt_of_cell? w _ (hc 0 (by omega) 0 .u64 rfl).1
      · rw [hl] at hi
        rw [evOf_getD Z len i hi]
        exact ⟨(hc i hi 0 .u64 rfl).1, (hc i hi 1 .u64 rfl).1⟩

theorem recs_st {w : World} {a : Option Addr} {len cap : Nat} {Z : Nat → Nat → Int} (h : IsRecs [.u32, .u16, .u8, .u8] w a len cap Z) : IsSt w a len Z := by
  obtain ⟨⟨h1, h1', _⟩, h2⟩ := h
  refine ⟨Nat.le_trans h1 h1', ?_, ?_⟩
  · intro k hk
    rcases h2 with h2 | ⟨b, off, _, hc⟩
    · omega
    · exact ⟨bounds_u32 (hc k hk 0 .u32 rfl).2, bounds_u16 (hc k hk 1 .u16 rfl).2, bounds_u8 (hc k hk 2 .u8 rfl).2, bounds_u8 (hc k hk 3 .u8 rfl).2⟩
  · rcases h2 with h2 | ⟨b, off, e, hc⟩
    · exact .inl h2
    · refine .inr ⟨b, off, e, fun i hi => ?_⟩
      exact ⟨(hc i hi 0 .u32 rfl).1, (hc i hi 1 .u16 rfl).1, (hc i hi 2 .u8 rfl).1, (hc i hi 3 .u8 rfl).1⟩

theorem open_evs {H : Type} {enc : TypeId × Value → H} {w : World} {base : Nat} {spare : Nat → Bool} {held : Bool} {fuel : Nat} {a : Option Addr} {len cap : Nat} {x : DataW H × List MemPlace}
    (h : DataW.trod enc Try.prog w base spare held fuel 22 [.slice a len cap] = some x) : ∃ L, IsEv w a len cap L := by
  obtain ⟨Z, hZ⟩ := open_recs (ks := [.u64, .u64]) Try.underlying22 Try.underlying29 (by kernel_rfl) (by simp) (fun j hj => by
    rcases j with _ | _ | j
    · exact ⟨_, _, rfl, rfl, rfl, by kernel_rfl, Try.underlying23⟩
    · exact ⟨_, _, rfl, rfl, rfl, by kernel_rfl, Try.underlying23⟩
    · exfalso; simp at hj; try omega) h
  exact ⟨_, recs_ev hZ⟩

theorem open_steps {H : Type} {enc : TypeId × Value → H} {w : World} {base : Nat} {spare : Nat → Bool} {held : Bool} {fuel : Nat} {a : Option Addr} {len cap : Nat} {x : DataW H × List MemPlace}
    (h : DataW.trod enc Try.prog w base spare held fuel 24 [.slice a len cap] = some x) : ∃ Z, IsSt w a len Z := by
  obtain ⟨Z, hZ⟩ := open_recs (ks := [.u32, .u16, .u8, .u8]) Try.underlying24 Try.underlying63 (by kernel_rfl) (by simp) (fun j hj => by
    rcases j with _ | _ | _ | _ | j
    · exact ⟨_, _, rfl, rfl, rfl, by kernel_rfl, Try.underlying25⟩
    · exact ⟨_, _, rfl, rfl, rfl, by kernel_rfl, Try.underlying50⟩
    · exact ⟨_, _, rfl, rfl, rfl, by kernel_rfl, Try.underlying5⟩
    · exact ⟨_, _, rfl, rfl, rfl, by kernel_rfl, Try.underlying5⟩
    · exfalso; simp at hj; try omega) h
  exact ⟨_, recs_st hZ⟩

end Go.Proofs.Ytfabgfenelaheaa
