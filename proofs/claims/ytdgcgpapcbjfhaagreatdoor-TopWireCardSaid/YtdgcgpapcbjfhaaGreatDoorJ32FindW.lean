/- Rules by their prefixes: the rule of a key. -/
import Derived.Test.YtdgcgpapcbjfhaaGreatDoorJ31TreeW
import Derived.Test.YtdgcgpapcbjfhaaGreatDoorJ15OrdR
import Derived.Test.YtdgcgpapcbjfhaaGreatDoorJ28StillIn
set_option linter.unusedVariables false
set_option linter.unusedSimpArgs false

/- Rules by their prefixes: a new tree. -/
namespace Go.Proofs.YtdgcgpapcbjfhaaGreatDoor
open Go.RowKit

theorem Tree.rule {rs : List Rl} {T : Nat} {G : GT} {w : World} (h : Tree rs T G w) {b x : Nat} (hb : b ∈ G.S) {r : Rl} (hr : r ∈ rs) (hx : RuleBox w x r) :
    Tree rs T ⟨G.S, G.pt, fun k => if k = b then some x else G.ru k, G.mb, G.par⟩ (w.setCell ⟨b, 1, none⟩ (.pointer (some ⟨x, 0, none⟩))) := by
  have hbb : But (fun k => k = b) w (w.setCell ⟨b, 1, none⟩ (.pointer (some ⟨x, 0, none⟩))) := (But.refl (fun k => k = b) w).setCell rfl _
  refine ⟨h.root, h.rpt, ?_, h.part, h.plen, ?_, h.minj, ?_⟩
  · intro k hk
    by_cases e : k = b
    · subst e
      have g := h.node k hk
      simp only [if_true]
      refine ⟨?_, ?_, ?_, ?_, ?_⟩
      · rw [World.cell?_setCell_other (h := fun e => by cases e)]; exact g.c0
      · exact World.cell?_setCell_same _ _ _ g.c1
      · rw [World.cell?_setCell_other (h := fun e => by cases e)]; exact g.c2
      · rw [World.frozen?_setCell]; exact g.f0
      · rw [World.frozen?_setCell]; exact g.f1
    · simp only [if_neg e]
      exact (h.node k hk).but hbb e
  · intro k hk z hz
    have key : ∃ r ∈ rs, RuleBox w z r := by
      simp only at hz
      split at hz
      · injection hz with hz; subst hz; exact ⟨r, hr, hx⟩
      · exact h.rul k hk z hz
    obtain ⟨r', hr', hb'⟩ := key
    exact ⟨r', hr', hb'.but hbb fun e => (h.box_ne hb').1 (e ▸ hb)⟩
  · intro k hk
    obtain ⟨es, ck, g1, g2, g3⟩ := h.maps k hk
    exact ⟨es, ck, (hbb.block _ (Array.getElem?_eq_some_iff.1 g1).1 fun e => h.mb_ne hb hk e.symm).trans g1, g2, g3⟩

def G0 (T m : Nat) : GT := ⟨[T], fun _ => [], fun _ => none, fun _ => m, fun _ => 0⟩
theorem tree_start (rs : List Rl) (w : World) : Tree rs (w.heap.size + 1) (G0 (w.heap.size + 1) w.heap.size) ((w.alloc (.map #[] 0)).alloc (.cells #[.string ⟨#[]⟩, .pointer none, .map (some w.heap.size), .int .i64 0] 189)) := by
  have hnew : ∀ i v, (#[.string ⟨#[]⟩, .pointer none, .map (some w.heap.size), .int .i64 0] : Array Value)[i]? = some v → ((w.alloc (.map #[] 0)).alloc (.cells #[.string ⟨#[]⟩, .pointer none, .map (some w.heap.size), .int .i64 0] 189)).cell? ⟨w.heap.size + 1, i, none⟩ = some v := by
    intro i v hv
    rw [show w.heap.size + 1 = (w.alloc (.map #[] 0)).heap.size by simp, World.cell?_alloc_new]; exact hv
  refine ⟨by simp [G0], rfl, ?_, ?_, by simp [G0], by simp [G0], ?_, ?_⟩
  · intro b hb
    simp [G0] at hb
    subst hb
    refine ⟨hnew 0 _ rfl, hnew 1 _ rfl, hnew 2 _ rfl, ?_, ?_⟩ <;> (rw [show w.heap.size + 1 = (w.alloc (.map #[] 0)).heap.size by simp]; exact frozen_new _ _ _ _)
  · intro b hb hT; simp [G0] at hb; exact absurd hb hT
  · intro b hb b' hb' _; simp [G0] at hb hb'; rw [hb, hb']
  · intro b hb
    exact ⟨#[], 0, by simp only [G0]; rw [(MapKept.heap_alloc _ _).2 _ (by simp)]; exact (MapKept.heap_alloc w _).1, by simp, by simp⟩

/-- what holds of the tree that is made -/
structure NewAt (w : World) (rs : List Rl) (T k : Nat) (G : GT) (wr : World) : Prop where
  tree : Tree rs T G wr
  low : ∀ b ∈ G.S, w.heap.size ≤ b ∧ w.heap.size ≤ G.mb b
  dflt : hasP (rs.take k) [] = true → ∃ x, G.ru T = some x
  ext : Ext w wr
  many : ∃ m : Nat, m ≤ k ∧ wr.cell? ⟨T, 3, none⟩ = some (.int .i64 m)
  fr : wr.frozen? ⟨T, 3, none⟩ = false

theorem hasP_snoc {rs : List Rl} {k : Nat} (hk : k < rs.length) (h : hasP (rs.take (k + 1)) [] = true) : hasP (rs.take k) [] = true ∨ (rs.getD k Rl0).pre = [] := by
  unfold hasP at *
  rw [take_snocR rs k hk, List.any_append, Bool.or_eq_true] at h
  rcases h with h | h
  · exact .inl h
  · exact .inr (by simpa using h)

set_option maxRecDepth 100000 in
set_option maxHeartbeats 3200000 in
theorem pTreeNew (v : Value) (rs : List Rl) (hn : rs.length ≤ 1000) (hl : ∀ r ∈ rs, r.pre.length ≤ 1000000) (w : World) (hv : RulesAt w v rs) :
    Calls Tryz.prog 101 #[v] w fun e w' => ∃ T G, e = .returned (.pointer (some ⟨T, 0, none⟩)) ∧ NewAt w rs T rs.length G w' := by
  obtain ⟨a, cp, rfl, hf⟩ := hv.form
  have hH := Lib.hid hv
  have hF := Lib.hid hf
  have hmm := @run_makeMap Tryz.prog
  have hlH := Lib.hid hl
  clear hv hf hl
  go_enter Tryz.func101, Tryz.ntmps101
  go_wp2
  have hst : Hid (NewAt w rs (w.heap.size + 1) 0 (G0 (w.heap.size + 1) w.heap.size) ((w.alloc (.map #[] 0)).alloc (.cells #[.string ⟨#[]⟩, .pointer none, .map (some w.heap.size), .int .i64 0] 189))) := Lib.hid (by
    refine ⟨tree_start rs w, by simp [G0], fun h => by simp [hasP] at h, ((Ext.refl w).alloc _).alloc _, ⟨0, Nat.le_refl _, ?_⟩, ?_⟩
    · rw [show w.heap.size + 1 = (w.alloc (.map #[] 0)).heap.size by simp, World.cell?_alloc_new]; rfl
    · rw [show w.heap.size + 1 = (w.alloc (.map #[] 0)).heap.size by simp]; exact frozen_new _ _ _ _)
  obtain ⟨T, hT⟩ : ∃ T, w.heap.size + 1 = T := ⟨_, rfl⟩
  obtain ⟨W, hW⟩ : ∃ W, (w.alloc (.map #[] 0)).alloc (.cells #[.string ⟨#[]⟩, .pointer none, .map (some w.heap.size), .int .i64 0] 189) = W := ⟨_, rfl⟩
  rw [hT, hW] at hst
  rw [hT, hW]
  generalize G0 T w.heap.size = GG at hst
  clear hT hW
  go_loopw [5, 6, 13] (fun _ _ i wr => ∃ (k : Nat) (G : GT), k ≤ rs.length ∧ i = .int .i64 k ∧ Hid (NewAt w rs T k G wr)) (fun _ _ i _ => rs.length - (intOf i).toNat)
  case atStart => exact ⟨0, GG, Nat.zero_le _, rfl, hst⟩
  case round =>
    obtain ⟨k, G, hk, rfl, hA⟩ := hrel
    by_cases hlt : k < rs.length
    · obtain ⟨g, rfl, hgs, hgc, hgm⟩ := hF.out (by rintro rfl; simp at hlt)
      have hRA := hH.out.ext hA.out.ext
      obtain ⟨r0, r1, r2, r3⟩ := RulesAt.cells hRA hlt
      have hmr : rs.getD k Rl0 ∈ rs := by rw [getD_lt _ _ _ hlt]; exact List.getElem_mem hlt
      have hrl := hlH.out _ hmr
      have hdk := Lib.hid (hasP_snoc hlt)
      generalize rs.getD k Rl0 = R at *
      go_wp2
      obtain ⟨x, hxE⟩ : ∃ x, wr.heap.size = x := ⟨_, rfl⟩
      rw [hxE]
      obtain ⟨W1, hW1⟩ : ∃ W1, wr.alloc (.cells #[.string (strOf R.pre), .int .u64 R.ev, .int .u64 R.bu, .int .u8 (R.kd : Int)] 47) = W1 := ⟨_, rfl⟩
      have hx1 : Ext wr W1 := by rw [← hW1]; exact (Ext.refl wr).alloc _
      have hbx1 : RuleBox W1 x R := by
        have hnew : ∀ i v, (#[.string (strOf R.pre), .int .u64 R.ev, .int .u64 R.bu, .int .u8 (R.kd : Int)] : Array Value)[i]? = some v → W1.cell? ⟨x, i, none⟩ = some v := by
          intro i v hv
          rw [← hW1, ← hxE, World.cell?_alloc_new]; exact hv
        exact ⟨hnew 0 _ rfl, hnew 1 _ rfl, hnew 2 _ rfl, hnew 3 _ rfl⟩
      have hxw : w.heap.size ≤ x := by have := hA.out.ext.size; omega
      rw [hW1]
      clear hW1 hxE r0 r1 r2 r3 hRA
      have x0 := hbx1.1
      have hT1 := hA.out.tree.ext hx1
      have hGr := pGrow (hT1.ext ((Ext.refl W1).drew)) hT1.root R.pre hrl
      go_still_tail 5, (by kernel_rfl)
      change wpList _ _ _ _ _ W1.drew
      have hbd := Lib.hid (RuleBox.but hbx1 (But.of_ext (S := fun _ => False) ((Ext.refl W1).drew)) (fun h => h))
      have hTd := Lib.hid (hT1.ext ((Ext.refl W1).drew))
      have hxd : Hid (Ext wr W1.drew) := Lib.hid hx1.drew
      clear hbx1 hx1 hT1 x0
      generalize W1.drew = Wd at *
      go_wp2_with fail
      refine hGr.mono ?_
      rintro e W2 ⟨G2, b, rfl, hbn, hGA⟩
      have hown : ¬ OwnT G T x := by
        obtain ⟨h1, h2⟩ := hTd.out.box_ne hbd.out
        rintro (⟨h3, _⟩ | ⟨b', h3, h4⟩)
        · exact h1 h3
        · exact h2 b' h3 h4.symm
      have hownT : ¬ OwnT G T T := by
        rintro (⟨_, h3⟩ | ⟨b', h3, h4⟩)
        · exact h3 rfl
        · exact hTd.out.mb_ne hTd.out.root h3 h4.symm
      have hbx2 := Lib.hid (hbd.out.but hGA.but hown)
      obtain ⟨mm, hmk, hmc⟩ := hA.out.many
      have c3 := hGA.but.cell (hxd.out.reads hmc) hownT
      have f3 := hGA.but.free (hxd.out.reads hmc) hownT (hxd.out.free hmc hA.out.fr)
      have hnb := hGA.tree.node b hGA.mem
      have hlow2 : Hid (∀ b ∈ G2.S, w.heap.size ≤ b ∧ w.heap.size ≤ G2.mb b) := Lib.hid fun k' hk' => by
        have h1 := hA.out.ext.size
        have h2 := hxd.out.size
        rcases hGA.sub k' hk' with ⟨h3, h4⟩ | h3
        · rw [h4]; exact hA.out.low k' h3
        · omega
      have hext2 : Hid (Ext w W2) := Lib.hid (hGA.but.ext (hA.out.ext.trans hxd.out) (by
        rintro k' (⟨h3, _⟩ | ⟨b', h3, h4⟩)
        · exact (hA.out.low k' h3).1
        · rw [← h4]; exact (hA.out.low b' h3).2))
      have hGAH := Lib.hid hGA
      have hbnH := Lib.hid hbn
      have c1 := hnb.c1
      have g1 := hnb.f1
      have hbl := hGA.tree.lt hGA.mem
      have hTl := hGA.tree.lt hGA.tree.root
      clear hGr hTd hbd hxd hGA hnb hown hownT hmc hbn
      cases hru : G2.ru b with
      | none =>
        rw [hru] at c1
        simp only [Option.map_none] at c1
        have hT3 : Hid (NewAt w rs T (k + 1) ⟨G2.S, G2.pt, fun k => if k = b then some x else G2.ru k, G2.mb, G2.par⟩ ((W2.setCell ⟨b, 1, none⟩ (.pointer (some ⟨x, 0, none⟩))).setCell ⟨T, 3, none⟩ (.int .i64 ((mm : Int) + 1)))) := Lib.hid (by
          have h0 := hGAH.out.tree.rule hGAH.out.mem hmr hbx2.out
          have hbT : But (fun k => k = T) (W2.setCell ⟨b, 1, none⟩ (.pointer (some ⟨x, 0, none⟩))) ((W2.setCell ⟨b, 1, none⟩ (.pointer (some ⟨x, 0, none⟩))).setCell ⟨T, 3, none⟩ (.int .i64 ((mm : Int) + 1))) := (But.refl (fun k => k = T) _).setCell rfl _
          refine ⟨?_, hlow2.out, ?_, ?_, ⟨mm + 1, by omega, ?_⟩, ?_⟩
          · refine ⟨h0.root, h0.rpt, fun k' hk' => ?_, h0.part, h0.plen, fun k' hk' z hz => ?_, h0.minj, fun k' hk' => ?_⟩
            · have gg := h0.node k' hk'
              refine ⟨?_, ?_, ?_, ?_, ?_⟩
              · rw [World.cell?_setCell_other (h := fun e => by cases e)]; exact gg.c0
              · rw [World.cell?_setCell_other (h := fun e => by cases e)]; exact gg.c1
              · rw [World.cell?_setCell_other (h := fun e => by cases e)]; exact gg.c2
              · rw [World.frozen?_setCell]; exact gg.f0
              · rw [World.frozen?_setCell]; exact gg.f1
            · obtain ⟨r', hr', hb'⟩ := h0.rul k' hk' z hz
              exact ⟨r', hr', hb'.but hbT fun e => (h0.box_ne hb').1 (e ▸ h0.root)⟩
            · obtain ⟨es, ck, e1, e2, e3⟩ := h0.maps k' hk'
              exact ⟨es, ck, (hbT.block _ (Array.getElem?_eq_some_iff.1 e1).1 fun e => h0.mb_ne h0.root hk' e.symm).trans e1, e2, e3⟩
          · intro hh
            simp only
            rcases hdk.out hh with h1 | h1
            · obtain ⟨z, hz⟩ := hA.out.dflt h1
              split
              · exact ⟨_, rfl⟩
              · exact ⟨z, hGAH.out.ru.trans hz⟩
            · rw [if_pos (hbnH.out h1).symm]; exact ⟨_, rfl⟩
          · exact (hext2.out.setCell (hlow2.out b hGAH.out.mem).1 _).setCell (hlow2.out T hGAH.out.tree.root).1 _
          · have c3' : (W2.setCell ⟨b, 1, none⟩ (.pointer (some ⟨x, 0, none⟩))).cell? ⟨T, 3, none⟩ = some (.int .i64 mm) := by rw [World.cell?_setCell_other (h := fun e => by cases e)]; exact c3
            rw [World.cell?_setCell_same _ _ _ c3']; simp
          · rw [World.frozen?_setCell, World.frozen?_setCell]; exact f3)
        have c3' : (W2.setCell ⟨b, 1, none⟩ (.pointer (some ⟨x, 0, none⟩))).cell? ⟨T, 3, none⟩ = some (.int .i64 mm) := by rw [World.cell?_setCell_other (h := fun e => by cases e)]; exact c3
        clear hlow2 hext2 hGAH hbnH hA hdk hbx2 hru
        generalize (⟨G2.S, G2.pt, fun k => if k = b then some x else G2.ru k, G2.mb, G2.par⟩ : GT) = G3 at *
        go_wp2
        go_roundw
        case rel => exact ⟨k + 1, G3, by omega, by go_num, hT3⟩
        case measure => (simp [intOf]) <;> omega
      | some z =>
        rw [hru] at c1
        simp only [Option.map_some] at c1
        have hT3 : Hid (NewAt w rs T (k + 1) G2 W2) := Lib.hid (by
          refine ⟨hGAH.out.tree, hlow2.out, ?_, hext2.out, ⟨mm, by omega, c3⟩, f3⟩
          intro hh
          rcases hdk.out hh with h1 | h1
          · obtain ⟨z', hz⟩ := hA.out.dflt h1
            exact ⟨z', hGAH.out.ru.trans hz⟩
          · rw [← hbnH.out h1]; exact ⟨z, hru⟩)
        clear hlow2 hext2 hGAH hbnH hA hdk hbx2 hru
        go_wp2
        go_roundw
        case rel => exact ⟨k + 1, G2, by omega, by go_num, hT3⟩
        case measure => (simp [intOf]) <;> omega
    · obtain rfl : k = rs.length := by omega
      go_wp2
      go_ret
      exact ⟨T, G, rfl, hA.out⟩

end Go.Proofs.YtdgcgpapcbjfhaaGreatDoor

/- Rules by their prefixes: the way of a key. -/
namespace Go.Proofs.YtdgcgpapcbjfhaaGreatDoor
open Go.RowKit

attribute [local go_sem] Oper.semAt_some

theorem wayBox (n : Option Addr) (k : ByteArray) (w : World) :
    Calls Tryz.prog 120 #[.pointer n, .string k] w fun e w' => e = .returned (.func (.func 156) #[] #[.pointer (some ⟨w.heap.size, 0, none⟩), .pointer (some ⟨w.heap.size + 1, 0, none⟩)]) ∧ w' = (w.alloc (.cells #[.pointer n] 191)).alloc (.cells #[.string k] 9) := by
  go_enter Tryz.func120, Tryz.ntmps120
  go_wp2
  go_ret
  exact ⟨rfl, rfl⟩

/-- how far it may go yet -/
def wμ (NB KB T : Nat) (w : World) : Nat :=
  (match w.cell? ⟨KB, 0, none⟩ with | some (.string s) => s.size | _ => 0) + (match w.cell? ⟨NB, 0, none⟩ with | some (.pointer (some a)) => (if a.block = T then 1 else 0) | _ => 0)

theorem wμ_eq {NB KB T : Nat} {w : World} {s : ByteArray} {n : Option Nat} (hk : w.cell? ⟨KB, 0, none⟩ = some (.string s)) (hn : w.cell? ⟨NB, 0, none⟩ = some (.pointer (n.map fun b => ⟨b, 0, none⟩))) : wμ NB KB T w = s.size + (if n = some T then 1 else 0) := by
  unfold wμ
  rw [hk, hn]
  cases n with
  | none => simp
  | some b => by_cases c : b = T <;> simp [c]

theorem Kept.freeT {n m : Nat} {T : Nat → Prop} {A B : World} (h : Kept n m T A B) {p : Addr} {v : Value} (hm : T p.block) (hc : A.cell? p = some v) (hf : A.frozen? p = false) : B.frozen? p = false := by
  rw [frozen_of_block (h.these p.block hm (World.block_lt_of_cell? A _ hc))]; exact hf

set_option maxRecDepth 100000 in
set_option maxHeartbeats 3200000 in
theorem way_gives (rs : List Rl) (T : Nat) (G : GT) (wb w : World) (hTr : Tree rs T G wb) (NB KB : Nat) (s0 : List UInt8) (hs0 : s0.length ≤ 1000000) (hx : Ext wb w) (hNw : wb.heap.size ≤ NB) (hKw : wb.heap.size ≤ KB) (hNK : ¬ NB = KB)
    (hN : w.cell? ⟨NB, 0, none⟩ = some (.pointer (some ⟨T, 0, none⟩))) (hNf : w.frozen? ⟨NB, 0, none⟩ = false) (hK : w.cell? ⟨KB, 0, none⟩ = some (.string (strOf s0))) (hKf : w.frozen? ⟨KB, 0, none⟩ = false) :
    GivesG Tryz.prog 156 #[.pointer (some ⟨NB, 0, none⟩), .pointer (some ⟨KB, 0, none⟩)] (fun x : Nat => #[Value.pointer (some ⟨x, 0, none⟩)]) wb.heap.size (fun k => k = NB ∨ k = KB) (fun k => k = NB ∨ k = KB)
      (fun pre x => x ∈ G.S ∧ (pre = [] → x = T)) (fun ys => ys ≠ []) w := by
  intro l J Jx W hW hl hlt hJ hJx hY h0
  have hNl : NB < w.heap.size := World.block_lt_of_cell? w _ hN
  have hKl : KB < w.heap.size := World.block_lt_of_cell? w _ hK
  have hxW : Ext wb W := hx.trans hW
  have n0 := Ext.reads hW hN
  have k0 := Ext.reads hW hK
  have nf := Ext.free hW hN hNf
  have kf := Ext.free hW hK hKf
  clear hN hNf hK hKf
  refine callsIn_of_wp Tryz.func156 rfl trivial ?_ rfl
  simp only [Tryz.ntmps156, List.size_toArray, List.length_cons, List.length_nil, Nat.reduceAdd, Nat.reduceSub, Array.replicate_succ, Array.replicate_zero, List.push_toArray, List.append_toArray, List.nil_append, List.cons_append]
  gi_wp2
  gi_loopw [] (fun wr => ∃ (nn : Option Nat) (s : List UInt8) (pre : List Nat), s.length ≤ 1000000 ∧ wr.cell? ⟨NB, 0, none⟩ = some (.pointer (nn.map fun b => ⟨b, 0, none⟩)) ∧ wr.cell? ⟨KB, 0, none⟩ = some (.string (strOf s)) ∧ wr.frozen? ⟨NB, 0, none⟩ = false ∧ wr.frozen? ⟨KB, 0, none⟩ = false ∧
      Hid ((∀ b, nn = some b → b ∈ G.S) ∧ (pre = [] → nn = some T) ∧ (pre ≠ [] → nn ≠ some T) ∧ J pre wr ∧ Ext wb wr)) (fun wr => wμ NB KB T wr)
  case atStart => exact ⟨some T, s0, [], hs0, n0, k0, nf, kf, Lib.hid ⟨fun b h => by cases h; exact hTr.root, fun _ => rfl, fun h => absurd rfl h, h0, hxW⟩⟩
  case round =>
    obtain ⟨nn, s, pre, hs, n1, k1, nf1, kf1, hH⟩ := hrel
    cases nn with
    | none =>
      simp only [Option.map_none] at n1
      have hE : Hid (∃ ys : List Nat, ys ≠ [] ∧ ∀ W', But (fun k => l + 1 ≤ k ∨ (k = NB ∨ k = KB)) wr W' → J ys W') := Lib.hid ⟨pre, fun e => (by have := hH.out.2.1 e; cases this), fun W' hb => hJ _ _ _ hH.out.2.2.2.1 hb⟩
      clear hY hH
      gi_wp2
      refine wpIn_region_still_tail 13 (by kernel_rfl) (by kernel_rfl) ?_
      simp only [List.take_succ_cons, List.take_zero, List.drop_succ_cons, List.drop_zero]
      repeat still_step
      try refine wpStill_nil ?_
      gi_wp2
      refine ⟨fun _ h => (by cases h), ?_⟩
      gi_wp2
      go_end0
      obtain ⟨ys, h1, h2⟩ := hE.out
      exact ⟨⟨_, rfl⟩, .inl ⟨ys, h1, h2 _ (But.refl _ _).drew⟩⟩
    | some b =>
      simp only [Option.map_some] at n1
      have hbS := hH.out.1 b rfl
      have hTw := hTr.ext hH.out.2.2.2.2
      have hnb := hTw.node b hbS
      have p0 := hnb.c0
      have p2 := hnb.c2
      have hpl := hTw.plen b hbS
      have hHas := pHasK s (G.pt b) hs hpl
      have hbl := hTr.lt hbS
      have hbw := hTw.lt hbS
      obtain ⟨L, hL⟩ : ∃ L, strOf (G.pt b) = L := ⟨_, rfl⟩
      have hLs : L.size = (G.pt b).length := by rw [← hL, ← bs_length, bs_strOf]
      obtain ⟨K, hK⟩ : ∃ K, strOf s = K := ⟨_, rfl⟩
      have hKs : K.size = s.length := by rw [← hK, ← bs_length, bs_strOf]
      rw [hL] at p0 hHas
      rw [hK] at k1 hHas
      cases hh : hasPre s (G.pt b) with
      | false =>
        rw [hh] at hHas
        have hne : Hid (∃ ys : List Nat, ys ≠ [] ∧ ∀ W', But (fun k => l + 1 ≤ k ∨ (k = NB ∨ k = KB)) wr W' → J ys W') := Lib.hid ⟨pre, fun e => (by
          have h1 := hH.out.2.1 e
          cases h1
          rw [hTr.rpt] at hh
          simp [hasPre] at hh), fun W' hb => hJ _ _ _ hH.out.2.2.2.1 hb⟩
        clear hY hH hTw hnb hh
        gi_wp2
        refine wpIn_region_still_tail 13 (by kernel_rfl) (by kernel_rfl) ?_
        simp only [List.take_succ_cons, List.take_zero, List.drop_succ_cons, List.drop_zero]
        repeat still_step
        still_call ((hHas _).mono fun _ _ h => ⟨h.1, h.2.symm⟩)
        repeat still_step
        try refine wpStill_nil ?_
        gi_wp2
        refine ⟨fun _ h => (by cases h), ?_⟩
        gi_wp2
        go_end0
        obtain ⟨ys, h1, h2⟩ := hne.out
        exact ⟨⟨_, rfl⟩, .inl ⟨ys, h1, h2 _ (But.refl _ _).drew⟩⟩
      | true =>
        rw [hh] at hHas
        obtain ⟨fn, tmps, assign, body, hy, hR⟩ := hY pre b wr.drew (hJ _ _ _ hH.out.2.2.2.1 (But.refl _ wr).drew) ⟨hbS, fun e => (by have h1 := hH.out.2.1 e; injection h1)⟩
        have hle : (G.pt b).length ≤ s.length := by
          have e := of_decide_eq_true hh
          have := congrArg List.length e
          rw [List.length_take] at this
          omega
        have hHH := hH
        clear hY hTw hnb hh
        gi_wp2
        refine wpIn_region_still_tail 13 (by kernel_rfl) (by kernel_rfl) ?_
        simp only [List.take_succ_cons, List.take_zero, List.drop_succ_cons, List.drop_zero]
        repeat still_step
        still_call ((hHas _).mono fun _ _ h => ⟨h.1, h.2.symm⟩)
        repeat still_step
        try refine wpStill_nil ?_
        gi_wp2
        refine ⟨rfl, hR.mono ?_⟩
        rintro e W3 (⟨rfl, hJ3, hk3⟩ | ⟨rfl, hJx3⟩)
        · have n3 : W3.cell? ⟨NB, 0, none⟩ = some (.pointer (some ⟨b, 0, none⟩)) := hk3.cellT (.inl rfl) n1
          have k3 : W3.cell? ⟨KB, 0, none⟩ = some (.string K) := hk3.cellT (.inr rfl) k1
          have nf3 : W3.frozen? ⟨NB, 0, none⟩ = false := hk3.freeT (.inl rfl) n1 nf1
          have kf3 : W3.frozen? ⟨KB, 0, none⟩ = false := hk3.freeT (.inr rfl) k1 kf1
          have hx3 : Ext wb W3 := Below.trans (Ext.drew hHH.out.2.2.2.2) hk3.below
          have p3 : W3.cell? ⟨b, 0, none⟩ = some (.string L) := by rw [← hL]; exact ((hTr.ext hx3).node b hbS).c0
          have hQ : K.extract L.size K.size = strOf (s.drop (G.pt b).length) := by
            rw [hLs, hKs, ← hK, extract_strOf, List.take_of_length_le (by simp)]
          rw [hLs, hKs] at hQ
          have hJH := Lib.hid hJ3
          have hxH := Lib.hid hx3
          have hbNB : ¬ b = NB := by omega
          have hbKB : ¬ b = KB := by omega
          have hL0 : (L.size : Int) ≤ (K.size : Int) := by omega
          have hμ0 : Hid (wμ NB KB T wr = K.size + (if (some b : Option Nat) = some T then 1 else 0)) := Lib.hid (wμ_eq k1 n1)
          clear hJ3 hk3 hR hy p0 p2 n1 k1 nf1 kf1 hHas hx3
          obtain ⟨K2, hK2⟩ : ∃ K2, strOf (s.drop (G.pt b).length) = K2 := ⟨_, rfl⟩
          rw [hK2] at hQ
          gi_wp2
          gi_region
          obtain ⟨W4, hW4⟩ : ∃ W4, (W3.setCell ⟨KB, 0, none⟩ (.string K2)).drew = W4 := ⟨_, rfl⟩
          have n4 : W4.cell? ⟨NB, 0, none⟩ = some (.pointer (some ⟨b, 0, none⟩)) := by rw [← hW4]; show (W3.setCell ⟨KB, 0, none⟩ (.string K2)).cell? _ = _; rw [World.cell?_setCell_other (h := fun e => hNK (congrArg Addr.block e).symm)]; exact n3
          have k4 : W4.cell? ⟨KB, 0, none⟩ = some (.string K2) := by rw [← hW4]; exact World.cell?_setCell_same _ _ _ k3
          have nf4 : W4.frozen? ⟨NB, 0, none⟩ = false := by rw [← hW4]; show (W3.setCell ⟨KB, 0, none⟩ (.string K2)).frozen? _ = _; rw [World.frozen?_setCell]; exact nf3
          have kf4 : W4.frozen? ⟨KB, 0, none⟩ = false := by rw [← hW4]; show (W3.setCell ⟨KB, 0, none⟩ (.string K2)).frozen? _ = _; rw [World.frozen?_setCell]; exact kf3
          have x4 : Hid (Ext wb W4) := Lib.hid (by rw [← hW4]; exact (hxH.out.setCell hKw _).drew)
          have J4 : Hid (J (pre ++ [b]) W4) := Lib.hid (by rw [← hW4]; exact hJ _ _ _ hJH.out (((But.refl (fun k => l + 1 ≤ k ∨ (k = NB ∨ k = KB)) W3).setCell (.inr (.inr rfl)) _).drew))
          have hK2s : K2.size = s.length - (G.pt b).length := by rw [← hK2, ← bs_length, bs_strOf]; simp
          have hpe : (K2.toList == []) = decide (s.drop (G.pt b).length = []) := by rw [← hK2]; exact strEqC _ _
          rw [hW4]
          clear hW4 n3 k3 nf3 kf3 p3 hQ
          by_cases hs2 : s.drop (G.pt b).length = []
          · rw [decide_eq_true hs2] at hpe
            clear hs2 hK2s
            gi_wp2
            refine bodyPost_ret (results_none rfl _ _ _) rfl ?_
            exact ⟨⟨_, rfl⟩, .inl ⟨pre ++ [b], by simp, J4.out⟩⟩
          · obtain ⟨c, t, hct⟩ : ∃ c t, s.drop (G.pt b).length = c :: t := by cases hd : s.drop (G.pt b).length with | nil => exact absurd hd hs2 | cons c t => exact ⟨c, t, rfl⟩
            rw [decide_eq_false hs2] at hpe
            have hc0 : ∀ hh : 0 < K2.size, (K2[0]'hh).toNat = c.toNat := fun hh => by
              rw [bs_at K2 0 hh, ← hK2, bs_strOf, hct]; rfl
            have hcp : 0 < K2.size := by
              rw [← hK2, ← bs_length, bs_strOf, hct]; simp
            have hc0' := hc0 hcp
            have hTr4 := hTr.ext (x4.out.drew)
            have q2 : W4.cell? ⟨b, 2, none⟩ = some (.map (some (G.mb b))) := ((hTr.ext x4.out).node b hbS).c2
            have hμ : Hid (wμ NB KB T wr = K.size + (if (some b : Option Nat) = some T then 1 else 0)) := hμ0
            rcases hTr4.look hbS c with ⟨_, _, _, _, _, _, _, hlk⟩ | ⟨_, _, _, x, _, _, _, _, _, hx1, hx2, _, _, _, _, _, _, hlk⟩
            · have NM : ∀ b', (none : Option Nat) = some b' → b' ∈ G.S := fun b' h => by cases h
              have NE : ¬ (none : Option Nat) = some T := fun h => by cases h
              clear hTr4 hct hs2
              have m5 : Hid (wμ NB KB T ((W4.setCell ⟨NB, 0, none⟩ (.pointer none)).drew) < wμ NB KB T wr) := Lib.hid (by
                have e1 : wμ NB KB T ((W4.setCell ⟨NB, 0, none⟩ (.pointer none)).drew) = K2.size + (if (none : Option Nat) = some T then 1 else 0) := wμ_eq (by show (W4.setCell ⟨NB, 0, none⟩ (.pointer none)).cell? _ = _; rw [World.cell?_setCell_other (h := fun e => hNK (congrArg Addr.block e))]; exact k4) (World.cell?_setCell_same _ _ _ n4)
                rw [hμ.out, e1, if_neg NE]
                have hp := hTr.part b hbS
                by_cases c1 : b = T
                · rw [if_pos (by rw [c1]), hK2s]; omega
                · have : 0 < (G.pt b).length := Nat.pos_of_ne_zero fun e => hp c1 (List.eq_nil_of_length_eq_zero e)
                  rw [hK2s, if_neg (by simpa using c1)]; omega)
              have hH5 : Hid ((∀ b', none = some b' → b' ∈ G.S) ∧ (pre ++ [b] = [] → none = some T) ∧ (pre ++ [b] ≠ [] → none ≠ some T) ∧ J (pre ++ [b]) ((W4.setCell ⟨NB, 0, none⟩ (.pointer none)).drew) ∧ Ext wb ((W4.setCell ⟨NB, 0, none⟩ (.pointer none)).drew)) :=
                Lib.hid ⟨NM, fun h => by simp at h, fun _ => NE, hJ _ _ _ J4.out (((But.refl (fun k => l + 1 ≤ k ∨ (k = NB ∨ k = KB)) W4).setCell (.inr (.inl rfl)) _).drew), (x4.out.setCell hNw _).drew⟩
              have hdl : (s.drop (G.pt b).length).length ≤ 1000000 := by simp; omega
              have n5 : ((W4.setCell ⟨NB, 0, none⟩ (.pointer none)).drew).cell? ⟨NB, 0, none⟩ = some (.pointer none) := World.cell?_setCell_same _ _ _ n4
              have k5 : ((W4.setCell ⟨NB, 0, none⟩ (.pointer none)).drew).cell? ⟨KB, 0, none⟩ = some (.string K2) := by show (W4.setCell ⟨NB, 0, none⟩ (.pointer none)).cell? _ = _; rw [World.cell?_setCell_other (h := fun e => hNK (congrArg Addr.block e))]; exact k4
              have nf5 : ((W4.setCell ⟨NB, 0, none⟩ (.pointer none)).drew).frozen? ⟨NB, 0, none⟩ = false := by show (W4.setCell ⟨NB, 0, none⟩ (.pointer none)).frozen? _ = _; rw [World.frozen?_setCell]; exact nf4
              have kf5 : ((W4.setCell ⟨NB, 0, none⟩ (.pointer none)).drew).frozen? ⟨KB, 0, none⟩ = false := by show (W4.setCell ⟨NB, 0, none⟩ (.pointer none)).frozen? _ = _; rw [World.frozen?_setCell]; exact kf4
              clear J4 x4 hJH hxH hμ hHH hH
              gi_wp2
              gi_region
              all_goals
                clear hlk
                generalize hW5 : ((W4.setCell ⟨NB, 0, none⟩ (.pointer none)).drew) = W5 at *
                clear hW5
                gi_wp2
                go_roundw
                case rel => exact ⟨none, s.drop (G.pt b).length, pre ++ [b], hdl, n5, by rw [hK2]; exact k5, nf5, kf5, hH5⟩
                case measure => exact m5.out
            · have NM : ∀ b', (some x : Option Nat) = some b' → b' ∈ G.S := fun b' h => by cases h; exact hx1
              have NE : ¬ (some x : Option Nat) = some T := fun h => by cases h; exact hx2 rfl
              clear hTr4 hct hs2
              have m5 : Hid (wμ NB KB T ((W4.setCell ⟨NB, 0, none⟩ (.pointer (some ⟨x, 0, none⟩))).drew) < wμ NB KB T wr) := Lib.hid (by
                have e1 : wμ NB KB T ((W4.setCell ⟨NB, 0, none⟩ (.pointer (some ⟨x, 0, none⟩))).drew) = K2.size + (if ((some x) : Option Nat) = some T then 1 else 0) := wμ_eq (by show (W4.setCell ⟨NB, 0, none⟩ (.pointer (some ⟨x, 0, none⟩))).cell? _ = _; rw [World.cell?_setCell_other (h := fun e => hNK (congrArg Addr.block e))]; exact k4) (World.cell?_setCell_same _ _ _ n4)
                rw [hμ.out, e1, if_neg NE]
                have hp := hTr.part b hbS
                by_cases c1 : b = T
                · rw [if_pos (by rw [c1]), hK2s]; omega
                · have : 0 < (G.pt b).length := Nat.pos_of_ne_zero fun e => hp c1 (List.eq_nil_of_length_eq_zero e)
                  rw [hK2s, if_neg (by simpa using c1)]; omega)
              have hH5 : Hid ((∀ b', (some x) = some b' → b' ∈ G.S) ∧ (pre ++ [b] = [] → (some x) = some T) ∧ (pre ++ [b] ≠ [] → (some x) ≠ some T) ∧ J (pre ++ [b]) ((W4.setCell ⟨NB, 0, none⟩ (.pointer (some ⟨x, 0, none⟩))).drew) ∧ Ext wb ((W4.setCell ⟨NB, 0, none⟩ (.pointer (some ⟨x, 0, none⟩))).drew)) :=
                Lib.hid ⟨NM, fun h => by simp at h, fun _ => NE, hJ _ _ _ J4.out (((But.refl (fun k => l + 1 ≤ k ∨ (k = NB ∨ k = KB)) W4).setCell (.inr (.inl rfl)) _).drew), (x4.out.setCell hNw _).drew⟩
              have hdl : (s.drop (G.pt b).length).length ≤ 1000000 := by simp; omega
              have n5 : ((W4.setCell ⟨NB, 0, none⟩ (.pointer (some ⟨x, 0, none⟩))).drew).cell? ⟨NB, 0, none⟩ = some (.pointer (some ⟨x, 0, none⟩)) := World.cell?_setCell_same _ _ _ n4
              have k5 : ((W4.setCell ⟨NB, 0, none⟩ (.pointer (some ⟨x, 0, none⟩))).drew).cell? ⟨KB, 0, none⟩ = some (.string K2) := by show (W4.setCell ⟨NB, 0, none⟩ (.pointer (some ⟨x, 0, none⟩))).cell? _ = _; rw [World.cell?_setCell_other (h := fun e => hNK (congrArg Addr.block e))]; exact k4
              have nf5 : ((W4.setCell ⟨NB, 0, none⟩ (.pointer (some ⟨x, 0, none⟩))).drew).frozen? ⟨NB, 0, none⟩ = false := by show (W4.setCell ⟨NB, 0, none⟩ (.pointer (some ⟨x, 0, none⟩))).frozen? _ = _; rw [World.frozen?_setCell]; exact nf4
              have kf5 : ((W4.setCell ⟨NB, 0, none⟩ (.pointer (some ⟨x, 0, none⟩))).drew).frozen? ⟨KB, 0, none⟩ = false := by show (W4.setCell ⟨NB, 0, none⟩ (.pointer (some ⟨x, 0, none⟩))).frozen? _ = _; rw [World.frozen?_setCell]; exact kf4
              clear J4 x4 hJH hxH hμ hHH hH
              gi_wp2
              gi_region
              all_goals
                clear hlk
                generalize hW5 : ((W4.setCell ⟨NB, 0, none⟩ (.pointer (some ⟨x, 0, none⟩))).drew) = W5 at *
                clear hW5
                gi_wp2
                go_roundw
                case rel => exact ⟨(some x), s.drop (G.pt b).length, pre ++ [b], hdl, n5, by rw [hK2]; exact k5, nf5, kf5, hH5⟩
                case measure => exact m5.out
        · gi_wp2
          go_end0
          exact ⟨⟨_, rfl⟩, .inr hJx3⟩

end Go.Proofs.YtdgcgpapcbjfhaaGreatDoor

/- Rules by their prefixes: the rule of a key. -/
namespace Go.Proofs.YtdgcgpapcbjfhaaGreatDoor
open Go.RowKit

attribute [local go_sem] Oper.semAt_some

/-- what holds between two rounds -/
structure FindAt (w : World) (rs : List Rl) (R L : Nat) (pre : List Nat) (W : World) : Prop where
  ext : Ext w W
  o : ∃ o : Option Nat, W.cell? ⟨L, 0, none⟩ = some (.pointer (o.map fun b => ⟨b, 0, none⟩)) ∧ (pre = [] → o = none) ∧ (pre ≠ [] → ∃ x, o = some x ∧ ∃ r ∈ rs, RuleBox w x r)
  fr : W.frozen? ⟨L, 0, none⟩ = false
  r0 : W.cell? ⟨R, 0, none⟩ = some (.string ⟨#[]⟩)
  r1 : W.cell? ⟨R, 1, none⟩ = some (.int .u64 0)
  r2 : W.cell? ⟨R, 2, none⟩ = some (.int .u64 0)
  r3 : W.cell? ⟨R, 3, none⟩ = some (.int .u8 0)
  g0 : W.frozen? ⟨R, 0, none⟩ = false
  g1 : W.frozen? ⟨R, 1, none⟩ = false
  g2 : W.frozen? ⟨R, 2, none⟩ = false
  g3 : W.frozen? ⟨R, 3, none⟩ = false
theorem FindAt.but {X : Nat → Prop} {w W W' : World} {rs : List Rl} {R L : Nat} {pre : List Nat} (h : FindAt w rs R L pre W) (hb : But X W W') (hR : ¬ X R) (hL : ¬ X L) (hX : ∀ k, X k → w.heap.size ≤ k) : FindAt w rs R L pre W' := by
  obtain ⟨h1, ⟨o, h2, h3⟩, h4, a, b, c, d, e, f, g, i⟩ := h
  exact ⟨hb.ext h1 hX, ⟨o, hb.cell h2 hL, h3⟩, hb.free h2 hL h4, hb.cell a hR, hb.cell b hR, hb.cell c hR, hb.cell d hR, hb.free a hR e, hb.free b hR f, hb.free c hR g, hb.free d hR i⟩

theorem find_results {tmps : Array Value} {w : World} {R : Nat} {a b c d : Value} {t : Bool} (h4 : tmps[4]?.getD undef = .pointer (some ⟨R, 0, none⟩)) (h5 : tmps[5]?.getD undef = .bool t)
    (r0 : w.cell? ⟨R, 0, none⟩ = some a) (r1 : w.cell? ⟨R, 1, none⟩ = some b) (r2 : w.cell? ⟨R, 2, none⟩ = some c) (r3 : w.cell? ⟨R, 3, none⟩ = some d) :
    (results Tryz.f93 tmps).run Tryz.prog w = .ok (.tuple #[.agg #[a, b, c, d], .bool t]) w := by
  simp only [results, Tryz.results93]
  simp [h4, h5, go_sem, r0, r1, r2, r3]

set_option maxRecDepth 100000 in
set_option maxHeartbeats 3200000 in
theorem pFind (rs : List Rl) (T : Nat) (G : GT) (w : World) (hTr : Tree rs T G w) (hd : ∃ z, G.ru T = some z) (k : List UInt8) (hk : k.length ≤ 1000000) :
    Calls Tryz.prog 93 #[.pointer (some ⟨T, 0, none⟩), .string (strOf k)] w fun e w' => ∃ r, r ∈ rs ∧ e = .returned (.tuple #[rlV r, .bool true]) ∧ Ext w w' := by
  have hTl := hTr.lt hTr.root
  refine (callsIn_wide (n := 0)).1 ?_
  refine callsIn_of_wp_marks Tryz.func93 rfl trivial ?_ rfl
  simp only [Tryz.ntmps93, List.size_toArray, List.length_cons, List.length_nil, Nat.reduceAdd, Nat.reduceSub, Array.replicate_succ, Array.replicate_zero, List.push_toArray, List.append_toArray, List.nil_append, List.cons_append]
  gi_wp2
  refine ⟨trivial, rfl, (callsIn_wide.2 (wayBox (some ⟨T, 0, none⟩) (strOf k) _)).mono ?_⟩
  rintro e w' ⟨rfl, rfl⟩
  gi_wp2
  have hx0 : Ext w ((((w.alloc (.cells #[.string ⟨#[]⟩, .int .u64 0, .int .u64 0, .int .u8 0] 47)).alloc (.cells #[.pointer none] 141)).alloc (.cells #[.pointer (some ⟨T, 0, none⟩)] 191)).alloc (.cells #[.string (strOf k)] 9)) := ((((Ext.refl w).alloc _).alloc _).alloc _).alloc _
  refine wp_rangeFunc_g (n₀ := w.heap.size) (lb := #[.pointer (some ⟨w.heap.size + 2, 0, none⟩), .pointer (some ⟨w.heap.size + 3, 0, none⟩)]) rfl (enters_of Tryz.func156 (by kernel_rfl) rfl)
    (way_gives rs T G w _ hTr (w.heap.size + 2) (w.heap.size + 3) k hk hx0 (by omega) (by omega) (by omega) (by go_simp) (by go_simp) (by go_simp) (by go_simp)) (by rintro k (rfl | rfl) <;> simp) (by rintro k (rfl | rfl) <;> simp) (Below.refl _ _) (by simp; omega) (fun _ => rfl)
    (FindAt w rs w.heap.size (w.heap.size + 1)) (fun _ _ => False)
    ?inv ?invx ?start ?round ?done ?stop
  case inv =>
    intro pre A B h hb
    refine h.but hb ?_ ?_ ?_
    · rintro (h | h | h)
      · simp at h; omega
      · omega
      · omega
    · rintro (h | h | h)
      · simp at h; omega
      · omega
      · omega
    · rintro k (h | h | h)
      · simp at h; omega
      · omega
      · omega
  case invx => intro id A B h; exact h.elim
  case start =>
    exact ⟨hx0, ⟨none, by go_simp, fun _ => rfl, fun h => absurd rfl h⟩, by go_simp, by go_simp, by go_simp, by go_simp, by go_simp, by go_simp, by go_simp, by go_simp, by go_simp⟩
  case round =>
    rintro l' pre x Wr hl' hlt' hF ⟨hxS, hx0'⟩
    gi_wp2
    refine ⟨Ext.refl _, fun W₂ h12 hI2 => ?_⟩
    have hnb := (hTr.ext hI2.ext).node x hxS
    have c1 := hnb.c1
    have hxl := hTr.lt hxS
    obtain ⟨o, ho, ho1, ho2⟩ := hI2.o
    have hfz := hI2.fr
    have hll : w.heap.size + 1 < W₂.heap.size := World.block_lt_of_cell? W₂ _ ho
    have hsz : w.heap.size + 4 ≤ l' := by simp at hl'; omega
    have hIH := Lib.hid hI2
    have hoH := Lib.hid (And.intro ho1 ho2)
    have hru : Hid (∀ z, G.ru x = some z → ∃ r ∈ rs, RuleBox w z r) := Lib.hid fun z hz => hTr.rul x hxS z hz
    have hroot : Hid (pre = [] → ∃ z, G.ru x = some z) := Lib.hid fun h => by rw [hx0' h]; exact hd
    clear hnb hF hI2 ho1 ho2 hl'
    cases hrx : G.ru x with
    | none =>
      rw [hrx] at c1
      simp only [Option.map_none] at c1
      have hE : Hid (FindAt w rs w.heap.size (w.heap.size + 1) (pre ++ [x]) W₂) := Lib.hid (by
        obtain ⟨a, _, b, q0, q1, q2, q3, g0, g1, g2, g3⟩ := hIH.out
        have hne : pre ≠ [] := fun e => by obtain ⟨z, hz⟩ := hroot.out e; rw [hrx] at hz; cases hz
        exact ⟨a, ⟨o, ho, fun h => by simp at h, fun _ => hoH.out.2 hne⟩, b, q0, q1, q2, q3, g0, g1, g2, g3⟩)
      clear hIH hoH hru hroot hrx ho
      gi_wp2
      exact ⟨Kept.refl _ _ _ _, hE.out⟩
    | some z =>
      rw [hrx] at c1
      simp only [Option.map_some] at c1
      have hE : Hid (FindAt w rs w.heap.size (w.heap.size + 1) (pre ++ [x]) (W₂.setCell ⟨w.heap.size + 1, 0, none⟩ (.pointer (some ⟨z, 0, none⟩)))) := Lib.hid (by
        have hb : But (fun k => k = w.heap.size + 1) W₂ (W₂.setCell ⟨w.heap.size + 1, 0, none⟩ (.pointer (some ⟨z, 0, none⟩))) := (But.refl (fun k => k = w.heap.size + 1) W₂).setCell rfl _
        obtain ⟨r, hr, hbx⟩ := hru.out z hrx
        have hzl : z < w.heap.size := by
          obtain ⟨r', _, hb'⟩ := hTr.rul x hxS z hrx
          exact World.block_lt_of_cell? w _ hb'.1
        obtain ⟨a, _, b, q0, q1, q2, q3, g0, g1, g2, g3⟩ := hIH.out
        have nR : ¬ w.heap.size = w.heap.size + 1 := by omega
        exact ⟨a.setCell (by simp) _, ⟨some z, World.cell?_setCell_same _ _ _ ho, fun h => by simp at h, fun _ => ⟨z, rfl, r, hr, hbx⟩⟩, by rw [World.frozen?_setCell]; exact b, hb.cell q0 nR, hb.cell q1 nR, hb.cell q2 nR, hb.cell q3 nR, hb.free q0 nR g0, hb.free q1 nR g1, hb.free q2 nR g2, hb.free q3 nR g3⟩)
      have hKp : Hid (Kept w.heap.size (((((w.alloc (.cells #[.string ⟨#[]⟩, .int .u64 0, .int .u64 0, .int .u8 0] 47)).alloc (.cells #[.pointer none] 141)).alloc (.cells #[.pointer (some ⟨T, 0, none⟩)] 191)).alloc (.cells #[.string (strOf k)] 9))).heap.size (fun k => k = w.heap.size + 2 ∨ k = w.heap.size + 3) W₂ (W₂.setCell ⟨w.heap.size + 1, 0, none⟩ (.pointer (some ⟨z, 0, none⟩)))) :=
        Lib.hid (Kept.setCell _ _ _ _ _ _ (by simp) (by simp) (by rintro (h | h) <;> simp at h))
      clear hIH hoH hru hroot hrx
      gi_wp2
      exact ⟨hKp.out, hE.out⟩
  case done =>
    rintro D ys W hD hfin hF hK
    obtain ⟨hxW, ⟨o, ho, -, ho2⟩, hfz, q0, q1, q2, q3, g0, g1, g2, g3⟩ := hF
    obtain ⟨x, rfl, r, hr, hbx⟩ := ho2 hfin
    simp only [Option.map_some] at ho
    obtain ⟨b0, b1, b2, b3⟩ := hbx.but (But.of_ext hxW) (Nat.not_le.2 (World.block_lt_of_cell? w _ hbx.1))
    have hDl : w.heap.size + 4 ≤ D := by simp at hD; omega
    have hRl : w.heap.size < W.heap.size := World.block_lt_of_cell? W _ q0
    have hxl : x < W.heap.size := World.block_lt_of_cell? W _ b0
    obtain ⟨S, hS⟩ : ∃ S, strOf r.pre = S := ⟨_, rfl⟩
    obtain ⟨W9, hW9⟩ : ∃ W9, (((W.setCell ⟨w.heap.size, 0, none⟩ (.string S)).setCell ⟨w.heap.size, 1, none⟩ (.int .u64 r.ev)).setCell ⟨w.heap.size, 2, none⟩ (.int .u64 r.bu)).setCell ⟨w.heap.size, 3, none⟩ (.int .u8 (r.kd : Int)) = W9 := ⟨_, rfl⟩
    have hb9 : But (fun k => k = w.heap.size) W W9 := by rw [← hW9]; exact ((((But.refl (fun k => k = w.heap.size) W).setCell rfl _).setCell rfl _).setCell rfl _).setCell rfl _
    have c90 : Hid (W9.cell? ⟨w.heap.size, 0, none⟩ = some (.string S) ∧ W9.cell? ⟨w.heap.size, 1, none⟩ = some (.int .u64 r.ev) ∧ W9.cell? ⟨w.heap.size, 2, none⟩ = some (.int .u64 r.bu) ∧ W9.cell? ⟨w.heap.size, 3, none⟩ = some (.int .u8 (r.kd : Int))) := Lib.hid (by
      clear hd hfin hTr
      subst hW9
      refine ⟨by go_simp, by go_simp, by go_simp, by go_simp⟩)
    have hK9 : W9.heap[D]? = some (.deferred (some [])) := (hb9.block D (Array.getElem?_eq_some_iff.1 hK).1 (by omega)).trans hK
    have hE9 : Hid (Ext w W9) := Lib.hid (hb9.ext hxW (by rintro k rfl; exact Nat.le_refl _))
    rw [hS] at b0
    have hrv : Hid (rlV r = .agg #[.string S, .int .u64 r.ev, .int .u64 r.bu, .int .u8 (r.kd : Int)]) := Lib.hid (by unfold rlV; rw [hS])
    have hbD : But (fun k => k = D) W9 (W9.putObj D (.deferred none)) := But.putObj _ _ _
    have nD : ¬ w.heap.size = D := by omega
    have c91 := Lib.hid (And.intro (hbD.cell c90.out.1 nD) (And.intro (hbD.cell c90.out.2.1 nD) (And.intro (hbD.cell c90.out.2.2.1 nD) (hbD.cell c90.out.2.2.2 nD))))
    have hE10 : Hid (Ext w (W9.putObj D (.deferred none))) := Lib.hid (hbD.ext hE9.out (by rintro k rfl; omega))
    clear hbD hE9 c90 hb9 hK hS
    gi_wp2
    refine ⟨by simp, .inl ⟨_, _, rfl, run_takeDeferred hK9, ?_⟩⟩
    obtain ⟨e0, e1, e2, e3⟩ := c91.out
    exact ⟨_, find_results rfl rfl e0 e1 e2 e3, r, hr, by rw [hrv.out], hE10.out⟩
  case stop => intro D id W hD h; exact h.elim

end Go.Proofs.YtdgcgpapcbjfhaaGreatDoor
