/- Slices of structs of integers, opened at every index. -/
import Derived.Test.YtfabgfenelaheaaProg
import Derived.Deep.Slices
import Derived.OpenShut
import Derived.WalkKit
set_option linter.unusedVariables false
namespace Go.Proofs.Ytfabgfenelaheaa
open Go.RowKit Go.Deep Go.WideShapes Go.ChangeShapes

/-- What is known of a slice of structs of integers that came in: it is empty; or it leads to a row of cells, the struct at i has the numbers Z i 0, Z i 1, .. -/
def IsRecs (ks : List IntKind) (w : World) (a : Option Addr) (len cap : Nat) (Z : Nat → Nat → Int) : Prop :=
  (len ≤ cap ∧ cap ≤ maxLen ∧ (a = none → cap = 0)) ∧ (len = 0 ∨ ∃ b off, a = some ⟨b, off, none⟩ ∧ ∀ i, i < len → ∀ j k, ks[j]? = some k → w.cell? ⟨b, off + (i * ks.length + j), none⟩ = some (.int k (Z i j)) ∧ (Lit.int k (Z i j)).wf = true)

theorem open_recs {H : Type} {enc : TypeId × Value → H} {P : Program} {w : World} {base : Nat} {spare : Nat → Bool} {held : Bool} {t e : TypeId} {fuel : Nat} {a : Option Addr} {len cap : Nat} {x : DataW H × List MemPlace} {ks : List IntKind} {fs : Array Field}
    (ht : P.underlying t = some (.slice e)) (he : P.underlying e = some (.struct fs)) (ce : P.cellsOf e = ks.length) (hp : 0 < ks.length)
    (hk : ∀ j, j < ks.length → ∃ f k, ks[j]? = some k ∧ fs[j]? = some f ∧ f.offset = j ∧ P.cellsOf f.type = 1 ∧ P.underlying f.type = some (.int k))
    (h : DataW.trod enc P w base spare held fuel t [.slice a len cap] = some x) : ∃ Z, IsRecs ks w a len cap Z := by
  rcases open_slice ht h with ⟨hcs, _⟩ | ⟨a', len', cap', m, n, D, Pl, hcs, _, hl, hm, hmm, _, hx⟩
  · simp at hcs
    obtain ⟨rfl, rfl, rfl⟩ := hcs
    exact ⟨fun _ _ => 0, ⟨Nat.le_refl _, Nat.zero_le _, fun _ => rfl⟩, .inl rfl⟩
  · simp at hcs
    obtain ⟨rfl, rfl, rfl⟩ := hcs
    have hcs3 : len ≤ cap ∧ cap ≤ maxLen ∧ (some a' = none → cap = 0) := ⟨hl, hm, fun h => by cases h⟩
    by_cases h0 : len = 0
    · exact ⟨fun _ _ => 0, hcs3, .inl h0⟩
    have hlm : len ≤ m := by rw [hmm]; split <;> omega
    have each : ∀ i, i < len → ∃ z : Nat → Int, ∀ j k, ks[j]? = some k → w.cell? ((a'.add (i * ks.length)).add j) = some (.int k (z j)) ∧ (Lit.int k (z j)).wf = true := by
      intro i hi
      obtain ⟨cs', h1, h2⟩ := hx i (by omega)
      rw [ce] at h1
      obtain ⟨_, hlen, hcell⟩ := World.cells?_some h1
      obtain ⟨xs, n', _, _, _, hxl, hf⟩ := DataW.trod_struct he h2
      have one : ∀ j, j < ks.length → ∃ z : Int, ∀ k, ks[j]? = some k → w.cell? ((a'.add (i * ks.length)).add j) = some (.int k z) ∧ (Lit.int k z).wf = true := by
        intro j hj
        obtain ⟨f, k, hkj, hfj, ho, hc, hu⟩ := hk j hj
        have g := hf j f hfj
        rw [ho, hc] at g
        have hjx : j < xs.length := by rw [hxl]; exact (Array.getElem?_eq_some_iff.1 hfj).1
        rw [List.getElem?_eq_getElem hjx] at g
        obtain ⟨z, hz, _, hwf⟩ := DataW.trod_int hu g
        refine ⟨z, fun k' hk' => ?_⟩
        rw [hkj] at hk'
        cases hk'
        have hj' : j < cs'.length := by omega
        refine ⟨?_, hwf⟩
        rw [hcell j hj]
        have h3 : (cs'.drop j).take 1 = [cs'[j]] := by
          rw [List.drop_eq_getElem_cons hj', List.take_succ_cons, List.take_zero]
        rw [h3] at hz
        rw [List.getElem?_eq_getElem hj']
        simp at hz
        rw [hz]
      obtain ⟨z, hz⟩ := choose_lt (p := fun j (z : Int) => ∀ k, ks[j]? = some k → w.cell? ((a'.add (i * ks.length)).add j) = some (.int k z) ∧ (Lit.int k z).wf = true) one
      exact ⟨z, fun j k hk' => hz j (List.getElem?_eq_some_iff.1 hk').1 k hk'⟩
    obtain ⟨Z, hZ⟩ := choose_lt (p := fun i (z : Nat → Int) => ∀ j k, ks[j]? = some k → w.cell? ((a'.add (i * ks.length)).add j) = some (.int k (z j)) ∧ (Lit.int k (z j)).wf = true) each
    obtain ⟨b, off, spot⟩ := a'
    obtain ⟨f0, k0, hk0, _⟩ := hk 0 hp
    have hspot : spot = none := by simpa [Addr.add] using World.cell?_spot (hZ 0 (by omega) 0 k0 hk0).1
    subst hspot
    refine ⟨Z, hcs3, .inr ⟨b, off, rfl, fun i hi j k hk' => ?_⟩⟩
    have := hZ i hi j k hk'
    rw [add_add, add_plain] at this
    exact this

end Go.Proofs.Ytfabgfenelaheaa
