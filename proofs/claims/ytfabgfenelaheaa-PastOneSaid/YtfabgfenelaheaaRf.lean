/- A range over a function whose iterator keeps cells of its own: the caller's invariant speaks of blocks that lay when the loop began; a round turns nothing that was laid since. -/
import Derived.Test.YtfabgfenelaheaaNum
import Derived.RangeFuncNested
import Derived.RangeFuncBound
import Derived.RangeFuncLeaves
import Derived.Shelf.RegionOpen
import Derived.OwnWalkIn
import Derived.TacticsInMore
import Derived.LoopIn
set_option linter.unusedVariables false
namespace Go.Proofs.Ytfabgfenelaheaa
open Go.RowKit

/-- Nothing below n, nothing from m on, and nothing of T, has turned. -/
structure Kept (n m : Nat) (T : Nat → Prop) (A B : World) : Prop where
  below : Below n A B
  beyond : ∀ k, m ≤ k → k < A.heap.size → B.heap[k]? = A.heap[k]?
  these : ∀ k, T k → k < A.heap.size → B.heap[k]? = A.heap[k]?

theorem Kept.refl (n m : Nat) (T : Nat → Prop) (A : World) : Kept n m T A A := ⟨Below.refl _ _, fun _ _ _ => rfl, fun _ _ _ => rfl⟩

theorem Kept.trans {n m : Nat} {T : Nat → Prop} {A B C : World} (h : Kept n m T A B) (k : Kept n m T B C) : Kept n m T A C :=
  ⟨h.below.trans k.below, fun i hi hl => (k.beyond i hi (Nat.lt_of_lt_of_le hl h.below.size)).trans (h.beyond i hi hl), fun i hi hl => (k.these i hi (Nat.lt_of_lt_of_le hl h.below.size)).trans (h.these i hi hl)⟩

theorem Kept.mono {n n' m m' : Nat} {T : Nat → Prop} {A B : World} (h : Kept n m T A B) (hn : n' ≤ n) (hm : m ≤ m') : Kept n' m' T A B :=
  ⟨h.below.mono hn, fun i hi hl => h.beyond i (Nat.le_trans hm hi) hl, h.these⟩

theorem Kept.ext {n m : Nat} {T : Nat → Prop} {A B : World} (h : Ext A B) (hn : n ≤ A.heap.size) : Kept n m T A B :=
  ⟨Below.mono h hn, fun i _ hl => Below.block h i hl, fun i _ hl => Below.block h i hl⟩

theorem Kept.of_below {n m : Nat} {T : Nat → Prop} {A B : World} (h : Kept n m (fun _ => False) A B) (hT : ∀ k, T k → k < n) : Kept n m T A B :=
  ⟨h.below, h.beyond, fun i hi _ => Below.block h.below i (hT i hi)⟩

theorem Kept.of_beyond {n m m' : Nat} {T T' : Nat → Prop} {A B : World} (h : Kept n m T' A B) (hm : m ≤ m') (hT : ∀ k, T k → m ≤ k) : Kept n m' T A B :=
  ⟨h.below, fun i hi hl => h.beyond i (Nat.le_trans hm hi) hl, fun i hi hl => h.beyond i (hT i hi) hl⟩

theorem Kept.setCell (n m : Nat) (T : Nat → Prop) (W : World) (p : Addr) (v : Value) (hn : n ≤ p.block) (hm : p.block < m) (hT : ¬ T p.block) : Kept n m T W (W.setCell p v) :=
  ⟨(Below.refl n W).setCell hn v, fun k hk _ => Below.heap_setCell W p v k (by omega), fun k hk _ => Below.heap_setCell W p v k (fun e => hT (e ▸ hk))⟩

theorem below_putObj (n : Nat) (W : World) (k : Nat) (o : Obj) (h : n ≤ k) : Below n W (W.putObj k o) :=
  ⟨rfl, rfl, rfl, by simp, fun i hi => World.putObj_heap_other (by omega)⟩

theorem Kept.putObj (n m : Nat) (T : Nat → Prop) (W : World) (k : Nat) (o : Obj) (hn : n ≤ k) (hm : k < m) (hT : ∀ j, T j → j < k) : Kept n m T W (W.putObj k o) :=
  ⟨below_putObj n W k o hn, fun i hi _ => World.putObj_heap_other (by omega), fun i hi _ => World.putObj_heap_other (by have := hT i hi; omega)⟩

theorem cell_of_block {A B : World} {p : Addr} {v : Value} (hb : B.heap[p.block]? = A.heap[p.block]?) (hc : A.cell? p = some v) : B.cell? p = some v := by
  unfold World.cell? at hc ⊢
  rw [hb]; exact hc

theorem frozen_of_block {A B : World} {p : Addr} (hb : B.heap[p.block]? = A.heap[p.block]?) : B.frozen? p = A.frozen? p := by
  unfold World.frozen?
  rw [hb]

theorem Kept.cell {n m : Nat} {T : Nat → Prop} {A B : World} (h : Kept n m T A B) {p : Addr} {v : Value} (hm : m ≤ p.block) (hc : A.cell? p = some v) : B.cell? p = some v :=
  cell_of_block (h.beyond p.block hm (World.block_lt_of_cell? A _ hc)) hc

theorem Kept.cellT {n m : Nat} {T : Nat → Prop} {A B : World} (h : Kept n m T A B) {p : Addr} {v : Value} (hm : T p.block) (hc : A.cell? p = some v) : B.cell? p = some v :=
  cell_of_block (h.these p.block hm (World.block_lt_of_cell? A _ hc)) hc

/-- An iterator's word: it hands over xs, one by one, to whatever loop asks it. -/
def Gives {α : Type} (P : Program) (f : Nat) (lb : Array Value) (encs : α → Array Value) (n₀ : Nat) (T : Nat → Prop) (xs : List α) (w0 : World) : Prop :=
  ∀ (l : Nat) (J : List α → World → Prop) (W : World), Below w0.heap.size w0 W → w0.heap.size ≤ l → l < W.heap.size →
    (∀ pre A B, J pre A → Below (l + 1) A B → J pre B) →
    (∀ pre x W1, J pre W1 → (∃ rest, xs = pre ++ x :: rest) → YieldAt Fence.wide 0 P l (encs x) W1 fun e W' => e = .returned (.bool true) ∧ J (pre ++ [x]) W' ∧ Kept n₀ (l + 1) T W1 W') →
    J [] W → CallsIn Fence.wide 0 P f (#[.func (.yield l) #[] #[]] ++ lb) W fun e W' => (∃ v, e = .returned v) ∧ J xs W'

theorem wp_rangeFunc_gives {α : Type} {P : Program} {g : Operand} {ps : Array Tmp} {assign body : Code} {Q : Exit → Act → World → Prop} {a : Act} {w : World} {gf : Nat} {lb : Array Value}
    (hg : a.eval g = .func (.func gf) #[] lb) (eg : ∀ args w, (callFunc gf args).run P w = .ok (.enter gf args) w)
    {encs : α → Array Value} {n₀ : Nat} {T : Nat → Prop} {xs : List α} {w0 : World} (hseq : Gives P gf lb encs n₀ T xs w0) (hT : ∀ k, T k → k < w.heap.size) (hb0 : Below w0.heap.size w0 w) (hn : n₀ ≤ w.heap.size) (hps : ∀ x, (encs x).size = ps.size)
    (I : List α → World → Prop) (hI : ∀ pre A B, I pre A → Below w.heap.size A B → I pre B) (h0 : I [] w)
    (hround : ∀ (l : Nat) (pre : List α) (x : α) (W : World), w.heap.size ≤ l → l < W.heap.size → I pre W → (∃ rest, xs = pre ++ x :: rest) →
      assign.wpIn (Fence.wide.inRound l) 0 P (Exit.then (fun a₁ W₁ => Ext W W₁ ∧ ∀ W₂, Kept w.heap.size (l + 1) (fun _ => False) W₁ W₂ → I pre W₂ →
        body.wpIn (Fence.wide.inRound l) 0 P (Exit.then (fun _ W₃ => Kept n₀ w.heap.size T W₂ W₃ ∧ I (pre ++ [x]) W₃) (fun _ _ _ => False)) a₁ W₂) (fun _ _ _ => False))
        { tmps := (ps.zip (encs x)).foldl (fun t (p, v) => t.setIfInBounds p v) a.tmps, defers := [] } W)
    (hdone : ∀ (D : Nat) (W : World), w.heap.size ≤ D → I xs W → W.heap[D]? = some (.deferred (some [])) → Q .normal { a with defers := { target := .collected D, args := #[] } :: a.defers } W) :
    (Code.rangeFunc g ps assign body).wpIn Fence.wide 0 P Q a w := by
  refine wpIn_rangeFunc ?_
  intro fn hfn
  rw [show Fence.wide.round = none from rfl]
  obtain ⟨rec, hrec⟩ : ∃ rec : LoopState → Option Code → Loop, rec = fun st pe => { state := st, pending := pe, fn, tmps := a.tmps, params := ps, assign, body, defers := w.heap.size } := ⟨_, rfl⟩
  obtain ⟨W0, hW0⟩ : ∃ W0, (w.alloc (.deferred (some []))).alloc (.loop (rec .ready none)) = W0 := ⟨_, rfl⟩
  have hL0 : W0.heap[w.heap.size + 1]? = some (.loop (rec .ready none)) := by
    rw [← hW0]; have := World.alloc_heap_new (w.alloc (.deferred (some []))) (.loop (rec .ready none)); rwa [World.size_alloc] at this
  have hK0 : W0.heap[w.heap.size]? = some (.deferred (some [])) := by
    rw [← hW0]; exact (Below.heap_alloc _ _ _ (by simp)).trans (World.alloc_heap_new w _)
  have hx0 : Ext w W0 := by rw [← hW0]; exact ((Ext.refl w).alloc _).alloc _
  have hb1 : Below w0.heap.size w0 W0 := hb0.trans (Below.mono hx0 hb0.size)
  have hsz : w.heap.size + 1 < W0.heap.size := (Array.getElem?_eq_some_iff.1 hL0).1
  refine ⟨w.heap.size + 1, [{ target := .collected w.heap.size, args := #[] }], W0, { target := .fn (.func gf) lb, args := #[.func (.yield (w.heap.size + 1)) #[] #[]] }, W0, gf,
    #[.func (.yield (w.heap.size + 1)) #[] #[]] ++ lb, W0, ?_, ?_, ?_, ?_, (fun h => by cases h), ?_⟩
  · rw [← hW0, hrec]; exact run_enterLoop_outer _ _ _ _ _
  · simp only [resolve, hg]
    simp [go_sem]
  · intro f' _; trivial
  · simp [invoke, go_sem, eg]
  · refine (hseq (w.heap.size + 1) (fun pre W => I pre W ∧ W.heap[w.heap.size + 1]? = some (.loop (rec .ready none)) ∧ W.heap[w.heap.size]? = some (.deferred (some []))) W0 hb1
      (Nat.le_trans hb0.size (Nat.le_succ _)) hsz ?_ ?_ ⟨hI _ _ _ h0 hx0, hL0, hK0⟩).mono ?_
    · rintro pre A B ⟨hi, hl, hk⟩ hb
      exact ⟨hI _ _ _ hi (hb.mono (by omega)), (hb.block _ (by omega)).trans hl, (hb.block _ (by omega)).trans hk⟩
    · rintro pre x W ⟨hi, hl, hk⟩ hrest
      have hlt : w.heap.size + 1 < W.heap.size := (Array.getElem?_eq_some_iff.1 hl).1
      have hy := run_yield (P := P) (args := encs x) hl (by rw [hrec]; exact hps x)
      rw [hrec] at hy
      refine ⟨fn, _, assign, body, hy, roundIn_of_wpIn hfn (wpIn_mono (hround (w.heap.size + 1) pre x W (by omega) hlt hi hrest) ?_)⟩
      clear hy
      rintro e a₁ W₁ hp
      cases e with
      | normal =>
        obtain ⟨hx1, hbody⟩ := hp
        have hl1 : W₁.heap[w.heap.size + 1]? = some (.loop (rec .ready none)) := (Below.block hx1 _ hlt).trans hl
        have hk1 : W₁.heap[w.heap.size]? = some (.deferred (some [])) := (Below.block hx1 _ (by omega)).trans hk
        have hlt1 : w.heap.size + 1 < W₁.heap.size := (Array.getElem?_eq_some_iff.1 hl1).1
        refine ⟨_, run_beginRound hl1 (by rw [hrec]), ?_⟩
        obtain ⟨W₂, hW₂⟩ : ∃ W₂, W₁.putObj (w.heap.size + 1) (.loop { rec .ready none with state := .busy }) = W₂ := ⟨_, rfl⟩
        rw [hW₂]
        have hl2 : W₂.heap[w.heap.size + 1]? = some (.loop { rec .ready none with state := .busy }) := by rw [← hW₂]; exact World.putObj_heap_same hlt1
        have hk2 : W₂.heap[w.heap.size]? = some (.deferred (some [])) := by rw [← hW₂]; exact (World.putObj_heap_other (by omega)).trans hk1
        have h12 : Kept w.heap.size (w.heap.size + 1 + 1) (fun _ => False) W₁ W₂ := by rw [← hW₂]; exact Kept.putObj _ _ _ _ _ _ (by omega) (by omega) (fun _ h => h.elim)
        have hi1 : I pre W₁ := hI _ _ _ hi (Below.mono hx1 (by omega))
        refine wpIn_mono (hbody W₂ h12 (hI _ _ _ hi1 h12.below)) ?_
        rintro e a3 W3 hp
        cases e with
        | normal =>
          obtain ⟨h23, hi3⟩ := hp
          have hl3 := (h23.beyond (w.heap.size + 1) (by omega) (Array.getElem?_eq_some_iff.1 hl2).1).trans hl2
          have hk3 := (h23.beyond w.heap.size (by omega) (Array.getElem?_eq_some_iff.1 hk2).1).trans hk2
          have hr := run_endRound (P := P) none hl3
          refine ⟨_, _, hr, rfl, ⟨hI _ _ _ hi3 (below_putObj _ _ _ _ (by omega)), ?_, (World.putObj_heap_other (by omega)).trans hk3⟩, ?_⟩
          · have := World.putObj_heap_same (o := .loop { rec .ready none with state := .ready, pending := none }) (Array.getElem?_eq_some_iff.1 hl3).1
            rw [hrec] at this ⊢
            exact this
          · have e1 : Kept n₀ (w.heap.size + 1 + 1) T W W₁ := Kept.ext hx1 (by omega)
            exact ((e1.trans ((h12.of_below hT).mono hn (Nat.le_refl _))).trans (h23.mono (Nat.le_refl _) (by omega))).trans (Kept.putObj _ _ _ _ _ _ (by omega) (by omega) (fun j hj => by have := hT j hj; omega))
        | ret => exact hp.elim
        | exit id => exact hp.elim
        | goto t => exact hp.elim
        | panic ch => exact hp.elim
        | outgrown => exact hp.elim
      | ret => exact hp.elim
      | exit id => exact hp.elim
      | goto t => exact hp.elim
      | panic ch => exact hp.elim
      | outgrown => exact hp.elim
    · rintro e W2 ⟨⟨v, rfl⟩, hi, hl, hk⟩
      exact ⟨none, _, by have := run_endLoop (P := P) hl (by rw [hrec]; simp); rw [hrec] at this; exact this, hdone _ _ (Nat.le_refl _) (hI _ _ _ hi (below_putObj _ _ _ _ (by omega))) ((World.putObj_heap_other (by omega)).trans hk)⟩

end Go.Proofs.Ytfabgfenelaheaa
