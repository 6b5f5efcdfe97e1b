/- Rules by their prefixes: the tree grows. -/
import Derived.Test.YtdgcgpapcbjfhaaGreatDoorJ29CommonW
import Derived.Test.YtdgcgpapcbjfhaaGreatDoorJ10LKey
import Derived.Test.YtdgcgpapcbjfhaaGreatDoorJ11Rg
import Derived.Test.YtdgcgpapcbjfhaaGreatDoorJ14CfgO
set_option linter.unusedVariables false
set_option linter.unusedSimpArgs false

/- Does a key begin so? -/
namespace Go.Proofs.YtdgcgpapcbjfhaaGreatDoor
open Go.RowKit

/-- does a text begin with another? -/
def hasPre (k p : List UInt8) : Bool := decide (k.take p.length = p)

set_option maxHeartbeats 1600000 in
theorem pHasL (k p : List UInt8) (hk : k.length ≤ 1000000) (hp : p.length ≤ 1000000) (w : World) :
    Calls Tryz.prog 77 #[.string (strOf k), .string (strOf p)] w fun e w' => e = .returned (.bool (hasPre k p)) ∧ w = w' := by
  have hsk : (strOf k).size = k.length := by rw [← bs_length, bs_strOf]
  have hsp : (strOf p).size = p.length := by rw [← bs_length, bs_strOf]
  by_cases h : p.length ≤ k.length
  · have he : ((((strOf k).extract 0 (strOf p).size).toList == (strOf p).toList) : Bool) = hasPre k p := by
      rw [toList_bs, toList_bs, hsp, bs_extract, bs_strOf, bs_strOf]
      simp only [List.drop_zero, Nat.sub_zero]
      unfold hasPre
      rw [Bool.eq_iff_iff, beq_iff_eq, decide_eq_true_iff]
    generalize hasPre k p = H at *
    rw [hsp] at he
    have h' : (strOf p).size ≤ (strOf k).size := by omega
    generalize strOf k = K at *
    generalize strOf p = P at *
    go_enter Tryz.func77, Tryz.ntmps77
    go_wp2
    go_ret
    exact ⟨rfl, rfl⟩
  · have he : hasPre k p = false := by
      unfold hasPre
      rw [decide_eq_false_iff_not]
      intro e
      have := congrArg List.length e
      rw [List.length_take] at this
      omega
    rw [he]
    have h' : ¬ (strOf p).size ≤ (strOf k).size := by omega
    generalize strOf k = K at *
    generalize strOf p = P at *
    have hd : decide ((P.size : Int) ≤ (K.size : Int)) = false := by simp; omega
    go_enter Tryz.func77, Tryz.ntmps77
    go_wp2
    go_ret
    exact ⟨rfl, rfl⟩

theorem pHasS (k p : List UInt8) (hk : k.length ≤ 1000000) (hp : p.length ≤ 1000000) (w : World) :
    Calls Tryz.prog 191 #[.string (strOf k), .string (strOf p)] w fun e w' => e = .returned (.bool (hasPre k p)) ∧ w = w' := by
  have h := pHasL k p hk hp
  generalize hasPre k p = H at *
  generalize strOf k = K at *
  generalize strOf p = P at *
  go_enter Tryz.func191, Tryz.ntmps191
  go_wp2_with fail
  refine (h _).mono ?_
  rintro e w1 ⟨rfl, rfl⟩
  go_wp2
  go_ret
  exact ⟨rfl, rfl⟩

theorem pHasK (k p : List UInt8) (hk : k.length ≤ 1000000) (hp : p.length ≤ 1000000) (w : World) :
    Calls Tryz.prog 157 #[.string (strOf k), .string (strOf p)] w fun e w' => e = .returned (.bool (hasPre k p)) ∧ w = w' := by
  have h := pHasS k p hk hp
  generalize hasPre k p = H at *
  generalize strOf k = K at *
  generalize strOf p = P at *
  go_enter Tryz.func157, Tryz.ntmps157
  go_wp2_with fail
  refine (h _).mono ?_
  rintro e w1 ⟨rfl, rfl⟩
  go_wp2
  go_ret
  exact ⟨rfl, rfl⟩

end Go.Proofs.YtdgcgpapcbjfhaaGreatDoor

/- Rules by their prefixes: the tree in memory. -/
namespace Go.Proofs.YtdgcgpapcbjfhaaGreatDoor
open Go.RowKit

structure NodeAt (w : World) (b : Nat) (pt : List UInt8) (ru : Option Nat) (mb : Nat) : Prop where
  c0 : w.cell? ⟨b, 0, none⟩ = some (.string (strOf pt))
  c1 : w.cell? ⟨b, 1, none⟩ = some (.pointer (ru.map fun x => ⟨x, 0, none⟩))
  c2 : w.cell? ⟨b, 2, none⟩ = some (.map (some mb))
  f0 : w.frozen? ⟨b, 0, none⟩ = false
  f1 : w.frozen? ⟨b, 1, none⟩ = false
theorem NodeAt.but {X : Nat → Prop} {w w' : World} {b : Nat} {pt : List UInt8} {ru : Option Nat} {mb : Nat} (h : NodeAt w b pt ru mb) (hb : But X w w') (hn : ¬ X b) : NodeAt w' b pt ru mb :=
  ⟨hb.cell h.c0 hn, hb.cell h.c1 hn, hb.cell h.c2 hn, hb.free h.c0 hn h.f0, hb.free h.c1 hn h.f1⟩

def RuleBox (w : World) (x : Nat) (r : Rl) : Prop :=
  w.cell? ⟨x, 0, none⟩ = some (.string (strOf r.pre)) ∧ w.cell? ⟨x, 1, none⟩ = some (.int .u64 r.ev) ∧ w.cell? ⟨x, 2, none⟩ = some (.int .u64 r.bu) ∧ w.cell? ⟨x, 3, none⟩ = some (.int .u8 (r.kd : Int))
theorem RuleBox.but {X : Nat → Prop} {w w' : World} {x : Nat} {r : Rl} (h : RuleBox w x r) (hb : But X w w') (hn : ¬ X x) : RuleBox w' x r :=
  ⟨hb.cell h.1 hn, hb.cell h.2.1 hn, hb.cell h.2.2.1 hn, hb.cell h.2.2.2 hn⟩

/-- what a tree is, beside memory -/
structure GT where
  S : List Nat
  pt : Nat → List UInt8
  ru : Nat → Option Nat
  mb : Nat → Nat
  par : Nat → Nat

def EntAt (G : GT) (T b : Nat) (e : MapEntry) : Prop :=
  ∃ (c : UInt8) (x : Nat) (t : List UInt8), e.key = .int .u8 (c.toNat : Int) ∧ e.val = .pointer (some ⟨x, 0, none⟩) ∧ x ∈ G.S ∧ x ≠ T ∧ G.par x = b ∧ G.pt x = c :: t

structure Tree (rs : List Rl) (T : Nat) (G : GT) (w : World) : Prop where
  root : T ∈ G.S
  rpt : G.pt T = []
  node : ∀ b ∈ G.S, NodeAt w b (G.pt b) (G.ru b) (G.mb b)
  part : ∀ b ∈ G.S, b ≠ T → G.pt b ≠ []
  plen : ∀ b ∈ G.S, (G.pt b).length ≤ 1000000
  rul : ∀ b ∈ G.S, ∀ x, G.ru b = some x → ∃ r ∈ rs, RuleBox w x r
  minj : ∀ b ∈ G.S, ∀ b' ∈ G.S, G.mb b = G.mb b' → b = b'
  maps : ∀ b ∈ G.S, ∃ es ck, w.heap[G.mb b]? = some (.map es ck) ∧ (es.toList.map (·.key)).Nodup ∧ ∀ e ∈ es.toList, EntAt G T b e

theorem cells_no_map {w : World} {b i : Nat} {v : Value} {es : Array MapEntry} {ck : Nat} (h : w.cell? ⟨b, i, none⟩ = some v) (hm : w.heap[b]? = some (.map es ck)) : False := by
  unfold World.cell? at h
  simp [hm] at h
theorem Tree.mb_ne {rs : List Rl} {T : Nat} {G : GT} {w : World} (h : Tree rs T G w) {b c : Nat} (hb : b ∈ G.S) (hc : c ∈ G.S) : b ≠ G.mb c := fun e => by
  obtain ⟨es, ck, hm, _⟩ := h.maps c hc
  rw [← e] at hm
  exact cells_no_map (h.node b hb).c0 hm
theorem Tree.box_ne {rs : List Rl} {T : Nat} {G : GT} {w : World} (h : Tree rs T G w) {x : Nat} {r : Rl} (hx : RuleBox w x r) : (x ∉ G.S) ∧ ∀ b ∈ G.S, x ≠ G.mb b := by
  refine ⟨fun hm => ?_, fun b hb e => ?_⟩
  · have := (h.node x hm).c1
    rw [hx.2.1] at this
    cases this
  · obtain ⟨es, ck, hm, _⟩ := h.maps b hb
    rw [← e] at hm
    exact cells_no_map hx.1 hm
theorem Tree.lt {rs : List Rl} {T : Nat} {G : GT} {w : World} (h : Tree rs T G w) {b : Nat} (hb : b ∈ G.S) : b < w.heap.size := World.block_lt_of_cell? w _ (h.node b hb).c0
theorem Tree.mlt {rs : List Rl} {T : Nat} {G : GT} {w : World} (h : Tree rs T G w) {b : Nat} (hb : b ∈ G.S) : G.mb b < w.heap.size := by
  obtain ⟨es, ck, hm, _⟩ := h.maps b hb
  exact (Array.getElem?_eq_some_iff.1 hm).1

/-- what a tree's growing may turn -/
def OwnT (G : GT) (T k : Nat) : Prop := (k ∈ G.S ∧ k ≠ T) ∨ ∃ b ∈ G.S, G.mb b = k

/-- what is no block of the tree's has turned -/
theorem Tree.but {X : Nat → Prop} {rs : List Rl} {T : Nat} {G : GT} {w w' : World} (h : Tree rs T G w) (hb : But X w w') (h1 : ∀ b ∈ G.S, ¬ X b) (h2 : ∀ b ∈ G.S, ¬ X (G.mb b)) (h3 : ∀ b ∈ G.S, ∀ x, G.ru b = some x → ¬ X x) : Tree rs T G w' :=
  ⟨h.root, h.rpt, fun b hs => (h.node b hs).but hb (h1 b hs), h.part, h.plen, fun b hs x hx => by
    obtain ⟨r, hr, hbx⟩ := h.rul b hs x hx
    exact ⟨r, hr, hbx.but hb (h3 b hs x hx)⟩, h.minj, fun b hs => by
    obtain ⟨es, ck, hm, hn, he⟩ := h.maps b hs
    exact ⟨es, ck, (hb.block _ (Array.getElem?_eq_some_iff.1 hm).1 (h2 b hs)).trans hm, hn, he⟩⟩
theorem Tree.ext {rs : List Rl} {T : Nat} {G : GT} {w w' : World} (h : Tree rs T G w) (hx : Ext w w') : Tree rs T G w' :=
  h.but (But.of_ext (S := fun _ => False) hx) (fun _ _ h => h) (fun _ _ h => h) (fun _ _ _ _ h => h)
theorem Tree.more {rs rs' : List Rl} {T : Nat} {G : GT} {w : World} (h : Tree rs T G w) (hs : ∀ r ∈ rs, r ∈ rs') : Tree rs' T G w :=
  ⟨h.root, h.rpt, h.node, h.part, h.plen, fun b hb x hx => by obtain ⟨r, hr, hbx⟩ := h.rul b hb x hx; exact ⟨r, hs r hr, hbx⟩, h.minj, h.maps⟩

/-- the keys of a node's map -/
theorem ent_keys {G : GT} {T b : Nat} {es : List MapEntry} (h : ∀ e ∈ es, EntAt G T b e) : ∃ ks : List Int, es.map (·.key) = ks.map (fun k => Value.int .u8 k) := by
  induction es with
  | nil => exact ⟨[], rfl⟩
  | cons e es ih =>
    obtain ⟨ks, hk⟩ := ih fun e he => h e (by simp [he])
    obtain ⟨c, x, t, h1, _⟩ := h e (by simp)
    exact ⟨c.toNat :: ks, by simp [h1, hk]⟩

theorem zeroNode (w : World) : (zeroValue 191).run Tryz.prog w = .ok (.pointer none) w := by kernel_rfl

/-- what goes on at a byte -/
theorem Tree.look {rs : List Rl} {T : Nat} {G : GT} {w : World} (h : Tree rs T G w) {b : Nat} (hb : b ∈ G.S) (c : UInt8) :
    (∃ es ck, w.heap[G.mb b]? = some (.map es ck) ∧ (es.toList.map (·.key)).Nodup ∧ (∀ e ∈ es.toList, EntAt G T b e) ∧ Value.int .u8 (c.toNat : Int) ∉ es.toList.map (·.key) ∧ Instr.findNow (.int .u8) (.int .u8 (c.toNat : Int)) es.toList 0 = some none ∧
      (Instr.lookup 185 (.map (some (G.mb b))) (.int .u8 (c.toNat : Int)) false).run Tryz.prog w = .ok (.pointer none) w) ∨
    (∃ es ck j x t e, w.heap[G.mb b]? = some (.map es ck) ∧ (es.toList.map (·.key)).Nodup ∧ (∀ e ∈ es.toList, EntAt G T b e) ∧ x ∈ G.S ∧ x ≠ T ∧ G.par x = b ∧ G.pt x = c :: t ∧ es.toList[j]? = some e ∧ e.key = .int .u8 (c.toNat : Int) ∧ e.val = .pointer (some ⟨x, 0, none⟩) ∧
      Instr.findNow (.int .u8) (.int .u8 (c.toNat : Int)) es.toList 0 = some (some (j, .pointer (some ⟨x, 0, none⟩))) ∧
      (Instr.lookup 185 (.map (some (G.mb b))) (.int .u8 (c.toNat : Int)) false).run Tryz.prog w = .ok (.pointer (some ⟨x, 0, none⟩)) w) := by
  obtain ⟨es, ck, hm, hn, he⟩ := h.maps b hb
  obtain ⟨ks, hk⟩ := ent_keys he
  obtain ⟨f1, f2⟩ := findB (c.toNat : Int) es.toList ks 0 hk
  by_cases hc : (c.toNat : Int) ∈ ks
  · right
    obtain ⟨j, e, hem, hj, hek, hf⟩ := f2 hc
    obtain ⟨c', x, t, h1, h2, h3, h4, h5, h6⟩ := he e hem
    rw [hek] at h1
    have hcc : c = c' := by
      injection h1 with _ h1
      exact UInt8.toNat_inj.1 (by omega)
    subst hcc
    rw [h2, Nat.zero_add] at hf
    exact ⟨es, ck, j, x, t, e, hm, hn, he, h3, h4, h5, h6, hj, hek, h2, hf, lookY Tryz.underlying185 Tryz.underlying5 (fun b w => ckInt Tryz.underlying5 b _ _ w) hm hf false⟩
  · left
    refine ⟨es, ck, hm, hn, he, ?_, f1 hc, lookN Tryz.underlying185 Tryz.underlying5 (fun b w => ckInt Tryz.underlying5 b _ _ w) hm (f1 hc) zeroNode false⟩
    rw [hk]
    intro hmem
    obtain ⟨k, hk1, hk2⟩ := List.mem_map.1 hmem
    injection hk2 with _ hk2
    rw [hk2] at hk1
    exact hc hk1

end Go.Proofs.YtdgcgpapcbjfhaaGreatDoor

/- Rules by their prefixes: the tree grows. -/
namespace Go.Proofs.YtdgcgpapcbjfhaaGreatDoor
open Go.RowKit

def GT.leaf (G : GT) (y m b : Nat) (s : List UInt8) : GT :=
  ⟨y :: G.S, fun k => if k = y then s else G.pt k, fun k => if k = y then none else G.ru k, fun k => if k = y then m else G.mb k, fun k => if k = y then b else G.par k⟩
def GT.half (G : GT) (y m b x : Nat) (p q : List UInt8) : GT :=
  ⟨y :: G.S, fun k => if k = y then p else if k = x then q else G.pt k, fun k => if k = y then none else G.ru k, fun k => if k = y then m else G.mb k, fun k => if k = y then b else if k = x then y else G.par k⟩

theorem Tree.leaf {rs : List Rl} {T : Nat} {G : GT} {w w1 : World} (h : Tree rs T G w) {b : Nat} (hb : b ∈ G.S) {es : Array MapEntry} {ck : Nat} (hm : w.heap[G.mb b]? = some (.map es ck)) (hnd : (es.toList.map (·.key)).Nodup) (hent : ∀ e ∈ es.toList, EntAt G T b e)
    {c : UInt8} {t : List UInt8} (hno : Value.int .u8 (c.toNat : Int) ∉ es.toList.map (·.key)) (hx : Ext w w1) {y m : Nat} (hy : w.heap.size ≤ y) (hm' : w.heap.size ≤ m) (hn : NodeAt w1 y (c :: t) none m) (hmm : w1.heap[m]? = some (.map #[] 0)) (hl : (c :: t).length ≤ 1000000) :
    Tree rs T (G.leaf y m b (c :: t)) (putMap w1 (G.mb b) (es.push { key := .int .u8 (c.toNat : Int), val := .pointer (some ⟨y, 0, none⟩), born := ck }) (ck + 1)) := by
  have hS : ∀ k ∈ G.S, k ≠ y := fun k hk e => by have := h.lt hk; omega
  have hT := hS T h.root
  have hb2 := putMap_but w1 (G.mb b) (es.push { key := .int .u8 (c.toNat : Int), val := .pointer (some ⟨y, 0, none⟩), born := ck }) (ck + 1)
  have hm1 : w1.heap[G.mb b]? = some (.map es ck) := (Below.block hx _ (h.mlt hb)).trans hm
  have hm2 := putMap_at hm1 (es.push { key := .int .u8 (c.toNat : Int), val := .pointer (some ⟨y, 0, none⟩), born := ck }) (ck + 1)
  have hyb : y ≠ G.mb b := fun e => by have := h.mlt hb; omega
  have hmb : m ≠ G.mb b := fun e => by have := h.mlt hb; omega
  have lift : ∀ k e, k ≠ y → EntAt G T k e → EntAt (G.leaf y m b (c :: t)) T k e := by
    rintro k e hk ⟨c', x, t', h1, h2, h3, h4, h5, h6⟩
    have hxy := hS x h3
    exact ⟨c', x, t', h1, h2, by simp [GT.leaf, h3], h4, by simp [GT.leaf, hxy, h5], by simp [GT.leaf, hxy, h6]⟩
  refine ⟨by simp [GT.leaf, h.root], by simp [GT.leaf, Ne.symm hT.symm, h.rpt], ?_, ?_, ?_, ?_, ?_, ?_⟩
  · intro k hk
    by_cases e : k = y
    · subst e
      simp only [GT.leaf, if_true]
      exact hn.but hb2 hyb
    · have hk : k ∈ G.S := by simpa [GT.leaf, e] using hk
      simp only [GT.leaf, if_neg e]
      exact ((h.ext hx).node k hk).but hb2 (h.mb_ne hk hb)
  · intro k hk hkT
    by_cases e : k = y
    · subst e; simp [GT.leaf]
    · simp only [GT.leaf, if_neg e]
      exact h.part k (by simpa [GT.leaf, e] using hk) hkT
  · intro k hk
    by_cases e : k = y
    · subst e; simp only [GT.leaf, if_true]; exact hl
    · simp only [GT.leaf, if_neg e]
      exact h.plen k (by simpa [GT.leaf, e] using hk)
  · intro k hk x hx'
    by_cases e : k = y
    · subst e; simp [GT.leaf] at hx'
    · simp only [GT.leaf, if_neg e] at hx'
      have hk : k ∈ G.S := by simpa [GT.leaf, e] using hk
      obtain ⟨r, hr, hbx⟩ := (h.ext hx).rul k hk x hx'
      exact ⟨r, hr, hbx.but hb2 (((h.ext hx).box_ne hbx).2 b hb)⟩
  · intro k hk k' hk' e
    by_cases e1 : k = y
    · by_cases e2 : k' = y
      · rw [e1, e2]
      · simp only [GT.leaf, if_pos e1, if_neg e2] at e
        have := h.mlt (b := k') (by simpa [GT.leaf, e2] using hk')
        omega
    · by_cases e2 : k' = y
      · simp only [GT.leaf, if_neg e1, if_pos e2] at e
        have := h.mlt (b := k) (by simpa [GT.leaf, e1] using hk)
        omega
      · simp only [GT.leaf, if_neg e1, if_neg e2] at e
        exact h.minj k (by simpa [GT.leaf, e1] using hk) k' (by simpa [GT.leaf, e2] using hk') e
  · intro k hk
    by_cases e : k = y
    · subst e
      simp only [GT.leaf, if_true]
      exact ⟨#[], 0, (hb2.block m (Array.getElem?_eq_some_iff.1 hmm).1 hmb).trans hmm, by simp, by simp⟩
    · have hk : k ∈ G.S := by simpa [GT.leaf, e] using hk
      by_cases e2 : k = b
      · subst e2
        rw [show (G.leaf y m k (c :: t)).mb k = G.mb k by simp [GT.leaf, e]]
        refine ⟨_, _, hm2, ?_, ?_⟩
        · simp only [Array.toList_push, List.map_append, List.map_cons, List.map_nil]
          refine List.nodup_append.2 ⟨hnd, by simp, ?_⟩
          intro a ha a' ha' e3
          simp only [List.mem_singleton] at ha'
          subst ha'; subst e3
          exact hno ha
        · intro e' he'
          simp only [Array.toList_push, List.mem_append, List.mem_singleton] at he'
          rcases he' with he' | rfl
          · exact lift k e' e (hent e' he')
          · exact ⟨c, y, t, rfl, rfl, by simp [GT.leaf], Ne.symm hT, by simp [GT.leaf], by simp [GT.leaf]⟩
      · obtain ⟨es', ck', g1, g2, g3⟩ := (h.ext hx).maps k hk
        rw [show (G.leaf y m b (c :: t)).mb k = G.mb k by simp [GT.leaf, e]]
        exact ⟨es', ck', (hb2.block _ (Array.getElem?_eq_some_iff.1 g1).1 fun hh => e2 (h.minj k hk b hb hh)).trans g1, g2, fun e' he' => lift k e' e (g3 e' he')⟩

theorem mod_mem {es : Array MapEntry} {j : Nat} {f : MapEntry → MapEntry} {e : MapEntry} (h : e ∈ (es.modify j f).toList) : ∃ i e0, es.toList[i]? = some e0 ∧ ((i = j ∧ e = f e0) ∨ (i ≠ j ∧ e = e0)) := by
  obtain ⟨i, hi, he⟩ := List.getElem_of_mem h
  have h1 : (es.modify j f)[i]? = some e := by
    rw [← Array.getElem?_toList, List.getElem?_eq_getElem hi, he]
  rw [Array.getElem?_modify] at h1
  by_cases c : j = i
  · rw [if_pos c] at h1
    cases h2 : es[i]? with
    | none => rw [h2] at h1; cases h1
    | some e0 =>
      rw [h2] at h1
      simp at h1
      exact ⟨i, e0, by rw [Array.getElem?_toList]; exact h2, .inl ⟨c.symm, h1.symm⟩⟩
  · rw [if_neg c] at h1
    exact ⟨i, e, by rw [Array.getElem?_toList]; exact h1, .inr ⟨fun e => c e.symm, rfl⟩⟩
theorem nodup_key {es : List MapEntry} (h : (es.map (·.key)).Nodup) {i j : Nat} {a b : MapEntry} (hi : es[i]? = some a) (hj : es[j]? = some b) (hk : a.key = b.key) : i = j := by
  have h1 : i < es.length := (List.getElem?_eq_some_iff.1 hi).1
  have h2 : j < es.length := (List.getElem?_eq_some_iff.1 hj).1
  have e1 := (List.getElem?_eq_some_iff.1 hi).2
  have e2 := (List.getElem?_eq_some_iff.1 hj).2
  rw [List.nodup_iff_pairwise_ne, List.pairwise_iff_getElem] at h
  rcases Nat.lt_trichotomy i j with hl | he | hg
  · exact ((h i j (by simpa using h1) (by simpa using h2) hl) (by rw [List.getElem_map, List.getElem_map, e1, e2]; exact hk)).elim
  · exact he
  · exact ((h j i (by simpa using h2) (by simpa using h1) hg) (by rw [List.getElem_map, List.getElem_map, e1, e2]; exact hk.symm)).elim

theorem Tree.half {rs : List Rl} {T : Nat} {G : GT} {w w1 : World} (h : Tree rs T G w) {b : Nat} (hb : b ∈ G.S) {es : Array MapEntry} {ck j : Nat} {e0 : MapEntry} (hm : w.heap[G.mb b]? = some (.map es ck)) (hnd : (es.toList.map (·.key)).Nodup) (hent : ∀ e ∈ es.toList, EntAt G T b e)
    {c c2 : UInt8} {t t2 : List UInt8} {x : Nat} (hxS : x ∈ G.S) (hxT : x ≠ T) (hxp : G.par x = b) (hxs : G.pt x = (c :: t) ++ (c2 :: t2)) (hj : es.toList[j]? = some e0) (hjk : e0.key = .int .u8 (c.toNat : Int))
    (hx : Ext w w1) {y m : Nat} (hy : w.heap.size ≤ y) (hm' : w.heap.size ≤ m) (hym : y ≠ m) (hn : NodeAt w1 y (c :: t) none m) (hmm : w1.heap[m]? = some (.map #[{ key := .int .u8 (c2.toNat : Int), val := .pointer (some ⟨x, 0, none⟩), born := 0 }] 1)) :
    Tree rs T (G.half y m b x (c :: t) (c2 :: t2)) (putMap (w1.setCell ⟨x, 0, none⟩ (.string (strOf (c2 :: t2)))) (G.mb b) (es.modify j fun e => { e with key := .int .u8 (c.toNat : Int), val := .pointer (some ⟨y, 0, none⟩) }) ck) := by
  have hS : ∀ k ∈ G.S, k ≠ y := fun k hk e => by have := h.lt hk; omega
  have hT := hS T h.root
  have hxy := hS x hxS
  have h1 := h.ext hx
  obtain ⟨w2, hw2⟩ : ∃ w2, w1.setCell ⟨x, 0, none⟩ (.string (strOf (c2 :: t2))) = w2 := ⟨_, rfl⟩
  have hbx : But (fun k => k = x) w1 w2 := by rw [← hw2]; exact (But.refl (fun k => k = x) w1).setCell rfl _
  have hm1 : w1.heap[G.mb b]? = some (.map es ck) := (Below.block hx _ (h.mlt hb)).trans hm
  have hxmb : ∀ k ∈ G.S, G.mb k ≠ x := fun k hk e => h.mb_ne hxS hk e.symm
  have hm2 : w2.heap[G.mb b]? = some (.map es ck) := (hbx.block _ (Array.getElem?_eq_some_iff.1 hm1).1 (hxmb b hb)).trans hm1
  have hnx : NodeAt w2 x (c2 :: t2) (G.ru x) (G.mb x) := by
    have g := h1.node x hxS
    rw [← hw2]
    refine ⟨World.cell?_setCell_same _ _ _ g.c0, ?_, ?_, ?_, ?_⟩
    · rw [World.cell?_setCell_other (h := fun e => by cases e)]; exact g.c1
    · rw [World.cell?_setCell_other (h := fun e => by cases e)]; exact g.c2
    · rw [World.frozen?_setCell]; exact g.f0
    · rw [World.frozen?_setCell]; exact g.f1
  rw [hw2]
  obtain ⟨es2, hes2⟩ : ∃ es2, (es.modify j fun e => { e with key := .int .u8 (c.toNat : Int), val := .pointer (some ⟨y, 0, none⟩) }) = es2 := ⟨_, rfl⟩
  have hkeys : es2.toList.map (·.key) = es.toList.map (·.key) := by
    rw [← hes2]
    refine MapKept.modify_keys j _ fun e he => ?_
    have : e = e0 := by
      rw [Array.getElem?_toList, he] at hj
      exact Option.some.inj hj
    rw [this]; exact hjk.symm
  have hmem : ∀ e ∈ es2.toList, (∃ i e', es.toList[i]? = some e' ∧ ((i = j ∧ e.key = .int .u8 (c.toNat : Int) ∧ e.val = .pointer (some ⟨y, 0, none⟩)) ∨ (i ≠ j ∧ e = e'))) := by
    intro e he
    rw [← hes2] at he
    obtain ⟨i, e', g1, g2⟩ := mod_mem he
    rcases g2 with ⟨g2, rfl⟩ | g2
    · exact ⟨i, e', g1, .inl ⟨g2, rfl, rfl⟩⟩
    · exact ⟨i, e', g1, .inr g2⟩
  rw [hes2]
  have hb2 := putMap_but w2 (G.mb b) es2 ck
  have hm3 := putMap_at hm2 es2 ck
  have hyb : y ≠ G.mb b := fun e => by have := h.mlt hb; omega
  have hmb : m ≠ G.mb b := fun e => by have := h.mlt hb; omega
  have hyx : y ≠ x := Ne.symm hxy
  have hmx : m ≠ x := fun e => by have := h.lt hxS; omega
  have lift : ∀ k e, k ≠ y → EntAt G T k e → (∀ c' x' t', e.key = .int .u8 ((c' : UInt8).toNat : Int) → e.val = .pointer (some ⟨x', 0, none⟩) → G.par x' = k → G.pt x' = c' :: t' → x' ≠ x) → EntAt (G.half y m b x (c :: t) (c2 :: t2)) T k e := by
    rintro k e hk ⟨c', x', t', g1, g2, g3, g4, g5, g6⟩ hne
    have hxy' := hS x' g3
    have hxx := hne c' x' t' g1 g2 g5 g6
    exact ⟨c', x', t', g1, g2, by simp [GT.half, g3], g4, by simp [GT.half, hxy', hxx, g5], by simp [GT.half, hxy', hxx, g6]⟩
  have hpl := h.plen x hxS
  rw [hxs] at hpl
  simp at hpl
  refine ⟨by simp [GT.half, h.root], by simp [GT.half, hT, Ne.symm hxT, h.rpt], ?_, ?_, ?_, ?_, ?_, ?_⟩
  · intro k hk
    by_cases e : k = y
    · subst e
      simp only [GT.half, if_true]
      exact (hn.but hbx hyx).but hb2 hyb
    · have hk : k ∈ G.S := by simpa [GT.half, e] using hk
      by_cases e2 : k = x
      · subst e2
        simp only [GT.half, if_neg e, if_true]
        exact hnx.but hb2 (h.mb_ne hxS hb)
      · simp only [GT.half, if_neg e, if_neg e2]
        exact ((h1.node k hk).but hbx e2).but hb2 (h.mb_ne hk hb)
  · intro k hk hkT
    by_cases e : k = y
    · subst e; simp [GT.half]
    · by_cases e2 : k = x
      · subst e2; simp [GT.half, e]
      · simp only [GT.half, if_neg e, if_neg e2]
        exact h.part k (by simpa [GT.half, e] using hk) hkT
  · intro k hk
    by_cases e : k = y
    · subst e; simp only [GT.half, if_true, List.length_cons]; omega
    · by_cases e2 : k = x
      · subst e2; simp only [GT.half, if_neg e, if_true, List.length_cons]; omega
      · simp only [GT.half, if_neg e, if_neg e2]
        exact h.plen k (by simpa [GT.half, e] using hk)
  · intro k hk z hz
    by_cases e : k = y
    · subst e; simp [GT.half] at hz
    · simp only [GT.half, if_neg e] at hz
      have hk : k ∈ G.S := by simpa [GT.half, e] using hk
      obtain ⟨r, hr, hbz⟩ := h1.rul k hk z hz
      have hbn := h1.box_ne hbz
      exact ⟨r, hr, (hbz.but hbx fun e => hbn.1 (e ▸ hxS)).but hb2 (hbn.2 b hb)⟩
  · intro k hk k' hk' e
    by_cases e1 : k = y
    · by_cases e2 : k' = y
      · rw [e1, e2]
      · simp only [GT.half, if_pos e1, if_neg e2] at e
        have := h.mlt (b := k') (by simpa [GT.half, e2] using hk')
        omega
    · by_cases e2 : k' = y
      · simp only [GT.half, if_neg e1, if_pos e2] at e
        have := h.mlt (b := k) (by simpa [GT.half, e1] using hk)
        omega
      · simp only [GT.half, if_neg e1, if_neg e2] at e
        exact h.minj k (by simpa [GT.half, e1] using hk) k' (by simpa [GT.half, e2] using hk') e
  · intro k hk
    by_cases e : k = y
    · subst e
      simp only [GT.half, if_true]
      refine ⟨_, 1, (hb2.block m (by have := (Array.getElem?_eq_some_iff.1 hmm).1; have := hbx.size; omega) hmb).trans ((hbx.block m (Array.getElem?_eq_some_iff.1 hmm).1 hmx).trans hmm), by simp, ?_⟩
      intro e' he'
      simp at he'
      subst he'
      exact ⟨c2, x, t2, rfl, rfl, by simp [hxS], hxT, by simp [hxy], by simp [hxy]⟩
    · have hk : k ∈ G.S := by simpa [GT.half, e] using hk
      by_cases e2 : k = b
      · subst e2
        rw [show (G.half y m k x (c :: t) (c2 :: t2)).mb k = G.mb k by simp [GT.half, e]]
        refine ⟨_, _, hm3, by rw [hkeys]; exact hnd, ?_⟩
        intro e' he'
        obtain ⟨i, e1, g1, g2⟩ := hmem e' he'
        rcases g2 with ⟨_, g3, g4⟩ | ⟨g3, rfl⟩
        · exact ⟨c, y, t, g3, g4, by simp [GT.half], Ne.symm hT, by simp [GT.half], by simp [GT.half]⟩
        · refine lift k e' e (hent e' (List.mem_of_getElem? g1)) ?_
          intro c' x' t' k1 k2 k3 k4 hxx
          subst hxx
          rw [hxs] at k4
          injection k4 with k4 _
          subst k4
          exact g3 (nodup_key hnd g1 hj (k1.trans hjk.symm))
      · obtain ⟨es', ck', g1, g2, g3⟩ := h1.maps k hk
        rw [show (G.half y m b x (c :: t) (c2 :: t2)).mb k = G.mb k by simp [GT.half, e]]
        have g1' := (hbx.block _ (Array.getElem?_eq_some_iff.1 g1).1 (hxmb k hk)).trans g1
        refine ⟨es', ck', (hb2.block _ (Array.getElem?_eq_some_iff.1 g1').1 fun hh => e2 (h.minj k hk b hb hh)).trans g1', g2, fun e' he' => lift k e' e (g3 e' he') ?_⟩
        intro c' x' t' k1 k2 k3 k4 hxx
        subst hxx
        exact e2 (k3.symm.trans hxp)

end Go.Proofs.YtdgcgpapcbjfhaaGreatDoor
