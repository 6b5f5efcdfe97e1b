/- Rules by their prefixes: the tree grows, walked. -/
import Derived.Test.YtdgcgpapcbjfhaaGreatDoorJ30TreeG
import Derived.RegionTactic
import Derived.BigRegion
import Derived.StillTailTactics
import Derived.Deep.RegionHeld3
import Derived.Deep.QuietTactic
import Derived.BigQuiet
set_option linter.unusedVariables false
set_option linter.unusedSimpArgs false

/- Rules by their prefixes: a node is parted. -/
namespace Go.Proofs.YtdgcgpapcbjfhaaGreatDoor
open Go.RowKit

theorem frozen_new (w : World) (cs : Array Value) (t : TypeId) (i : Nat) : (w.alloc (.cells cs t)).frozen? ⟨w.heap.size, i, none⟩ = false := by go_simp

theorem strOf_bs' (s : ByteArray) : strOf (bs s) = s := by
  unfold strOf bs; simp

theorem extract_strOf (l : List UInt8) (a b : Nat) : (strOf l).extract a b = strOf ((l.drop a).take (b - a)) := by
  rw [← strOf_bs' ((strOf l).extract a b), bs_extract, bs_strOf]

set_option maxRecDepth 100000 in
set_option maxHeartbeats 3200000 in
theorem pSplitN {rs : List Rl} {T : Nat} {G : GT} {w : World} (h : Tree rs T G w) {b : Nat} (hb : b ∈ G.S) {es : Array MapEntry} {ck j : Nat} {e0 : MapEntry} (hm : w.heap[G.mb b]? = some (.map es ck)) (hnd : (es.toList.map (·.key)).Nodup) (hent : ∀ e ∈ es.toList, EntAt G T b e)
    {c c2 : UInt8} {t t2 : List UInt8} {x at_ : Nat} (hxS : x ∈ G.S) (hxT : x ≠ T) (hxp : G.par x = b) (hxs : G.pt x = (c :: t) ++ (c2 :: t2)) (hj : es.toList[j]? = some e0) (hjk : e0.key = .int .u8 (c.toNat : Int))
    (hf : Instr.findNow (.int .u8) (.int .u8 (c.toNat : Int)) es.toList 0 = some (some (j, .pointer (some ⟨x, 0, none⟩)))) (hat : at_ = (c :: t).length) :
    Calls Tryz.prog 176 #[.pointer (some ⟨b, 0, none⟩), .pointer (some ⟨x, 0, none⟩), .int .i64 at_] w fun e w' => ∃ y m, e = .returned (.pointer (some ⟨y, 0, none⟩)) ∧ Tree rs T (G.half y m b x (c :: t) (c2 :: t2)) w' ∧ But (OwnT G T) w w' ∧ w.heap.size ≤ y ∧ w.heap.size ≤ m := by
  have hnb := h.node b hb
  have hnx := h.node x hxS
  have hpl := h.plen x hxS
  obtain ⟨K, hK⟩ : ∃ K, strOf (G.pt x) = K := ⟨_, rfl⟩
  have hsz : K.size = at_ + 1 + t2.length := by rw [← hK, ← bs_length, bs_strOf, hxs, hat]; simp; omega
  have hP : K.extract 0 at_ = strOf (c :: t) := by rw [← hK, extract_strOf, hxs, hat]; simp
  have hQ : K.extract at_ K.size = strOf (c2 :: t2) := by
    rw [hsz, ← hK, extract_strOf, hxs, hat]
    simp
    rw [List.take_of_length_le (by simp; omega)]
  rw [hsz] at hQ
  have hC : ∀ hh : at_ < K.size, (K[at_]'hh).toNat = c2.toNat := fun hh => by
    rw [bs_at K at_ hh, ← hK, bs_strOf, hxs, hat]
    simp
  have hatl : at_ < K.size := by omega
  have hC' := hC hatl
  have x0 : w.cell? ⟨x, 0, none⟩ = some (.string K) := by rw [← hK]; exact hnx.c0
  have fx0 := hnx.f0
  have b2 := hnb.c2
  have hxl := h.lt hxS
  have hbl := h.lt hb
  have hbx : ¬ b = x ∨ b = x := by omega
  have hmbl := h.mlt hb
  have hmx : ¬ G.mb b = x := fun e => h.mb_ne hxS hb e.symm
  have hmbb : ¬ G.mb b = b := fun e => h.mb_ne hb hb e.symm
  rw [hxs] at hpl
  simp at hpl
  have hai : (at_ : Int) < (K.size : Int) := by omega
  have hins : (Instr.mapUpdate 185 (.map (some w.heap.size)) (.int .u8 (c2.toNat : Int)) (.pointer (some ⟨x, 0, none⟩))).run Tryz.prog ((w.alloc (.map #[] 0)).drew) = .ok () (putMap ((w.alloc (.map #[] 0)).drew) w.heap.size #[{ key := .int .u8 (c2.toNat : Int), val := .pointer (some ⟨x, 0, none⟩), born := 0 }] 1) :=
    insN (es := #[]) (ck := 0) _ Tryz.underlying185 Tryz.underlying5 (fun b w => ckInt Tryz.underlying5 b _ _ w) (MapKept.heap_alloc w _).1 rfl
  have X0 : (putMap ((w.alloc (.map #[] 0)).drew) w.heap.size #[{ key := .int .u8 (c2.toNat : Int), val := .pointer (some ⟨x, 0, none⟩), born := 0 }] 1).cell? ⟨x, 0, none⟩ = some (.string K) :=
    (putMap_but _ _ _ _).cell ((((Ext.refl w).alloc (.map #[] 0)).drew).reads x0) (by simp; omega)
  have hmm := @run_makeMap Tryz.prog
  have hall := Lib.hid (And.intro h (And.intro hb (And.intro hm (And.intro hnd (And.intro hent (And.intro hxS (And.intro hxT (And.intro hxp (And.intro hxs (And.intro hj hjk))))))))))
  clear h hb hm hnd hent hxS hxT hxp hxs hj hjk hnb hnx hK hC hat
  go_enter Tryz.func176, Tryz.ntmps176
  go_wp2
  go_region
  obtain ⟨V1, hV1⟩ : ∃ V1, putMap ((w.alloc (.map #[] 0)).drew) w.heap.size #[{ key := .int .u8 (c2.toNat : Int), val := .pointer (some ⟨x, 0, none⟩), born := 0 }] 1 = V1 := ⟨_, rfl⟩
  have hVs : V1.heap.size = w.heap.size + 1 := by rw [← hV1]; simp [putMap]
  have hVx : Ext w V1 := by rw [← hV1]; exact (putMap_but _ _ _ _).ext ((Ext.refl w).alloc (.map #[] 0)).drew (by rintro k rfl; exact Nat.le_refl _)
  have hVm : V1.heap[w.heap.size]? = some (.map #[{ key := .int .u8 (c2.toNat : Int), val := .pointer (some ⟨x, 0, none⟩), born := 0 }] 1) := by rw [← hV1]; exact putMap_at (MapKept.heap_alloc w _).1 _ _
  rw [hV1]
  clear hV1 hins X0
  have hfz : Hid (∀ i, (V1.alloc (.cells #[.string (strOf (c :: t)), .pointer none, .map (some w.heap.size)] 187)).frozen? ⟨V1.heap.size, i, none⟩ = false) := Lib.hid fun i => frozen_new _ _ _ _
  obtain ⟨m, hmE⟩ : ∃ m, w.heap.size = m := ⟨_, rfl⟩
  rw [hmE] at hfz
  obtain ⟨y, hyE⟩ : ∃ y, V1.heap.size = y := ⟨_, rfl⟩
  rw [hyE, hmE]
  obtain ⟨W1, hW1⟩ : ∃ W1, V1.alloc (.cells #[.string (strOf (c :: t)), .pointer none, .map (some m)] 187) = W1 := ⟨_, rfl⟩
  have hxW : Ext w W1 := by rw [← hW1]; exact hVx.alloc _
  have hWm : Hid (W1.heap[m]? = some (.map #[{ key := .int .u8 (c2.toNat : Int), val := .pointer (some ⟨x, 0, none⟩), born := 0 }] 1)) := Lib.hid (by rw [← hW1, (MapKept.heap_alloc _ _).2 _ (by omega), ← hmE]; exact hVm)
  have hnew : ∀ i v, (#[.string (strOf (c :: t)), .pointer none, .map (some m)] : Array Value)[i]? = some v → W1.cell? ⟨y, i, none⟩ = some v := by
    intro i v hv
    rw [← hW1, ← hyE, World.cell?_alloc_new]; exact hv
  have hnode : NodeAt W1 y (c :: t) none m := by
    refine ⟨hnew 0 _ rfl, hnew 1 _ rfl, hnew 2 _ rfl, ?_, ?_⟩ <;> (rw [← hW1, ← hyE]; exact hfz.out _)
  have hym : ¬ y = m := by omega
  have hyx : ¬ y = x := by omega
  have hwy : w.heap.size ≤ y := by omega
  have hwm : w.heap.size ≤ m := by omega
  have y0 := hnode.c0
  have hnH := Lib.hid hnode
  have x1 := hxW.reads x0
  have fx1 := hxW.free x0 fx0
  have b2' := hxW.reads b2
  rw [hW1]
  clear hW1 hVm hVx hnew hnode hmE hyE hVs x0 fx0 b2
  obtain ⟨P, hPe⟩ : ∃ P, strOf (c :: t) = P := ⟨_, rfl⟩
  have hp0 : ∀ hh : 0 < P.size, (P[0]'hh).toNat = c.toNat := fun hh => by
    rw [bs_at P 0 hh, ← hPe, bs_strOf]; rfl
  have hpl : 0 < P.size := by rw [← hPe, ← bs_length, bs_strOf]; simp
  have hp0' := hp0 hpl
  have hW2m : Hid (∀ Q, (W1.setCell ⟨x, 0, none⟩ (.string Q)).heap[G.mb b]? = some (.map es ck)) := Lib.hid fun Q => by
    have hb2 : But (fun k => k = x) W1 (W1.setCell ⟨x, 0, none⟩ (.string Q)) := (But.refl (fun k => k = x) W1).setCell rfl _
    have h1 : W1.heap[G.mb b]? = some (.map es ck) := (Below.block hxW _ hmbl).trans hall.out.2.2.1
    exact (hb2.block _ (Array.getElem?_eq_some_iff.1 h1).1 hmx).trans h1
  have hupd : (Instr.mapUpdate 185 (.map (some (G.mb b))) (.int .u8 (c.toNat : Int)) (.pointer (some ⟨y, 0, none⟩))).run Tryz.prog ((W1.setCell ⟨x, 0, none⟩ (.string (strOf (c2 :: t2)))).drew) = .ok () (putMap ((W1.setCell ⟨x, 0, none⟩ (.string (strOf (c2 :: t2)))).drew) (G.mb b) (es.modify j fun e => { e with key := .int .u8 (c.toNat : Int), val := .pointer (some ⟨y, 0, none⟩) }) ck) :=
    insY _ Tryz.underlying185 Tryz.underlying5 (fun b w => ckInt Tryz.underlying5 b _ _ w) (hW2m.out _) hf (by
      have h10 := hall.out.2.2.2.2.2.2.2.2.2.1
      have h11 := hall.out.2.2.2.2.2.2.2.2.2.2
      rw [← Array.getElem?_toList, h10]
      simp [h11, Instr.sameBits])
  rw [hPe] at y0
  rw [hPe]
  clear hP
  go_wp2
  obtain ⟨W2, hW2⟩ : ∃ W2, W1.setCell ⟨x, 0, none⟩ (.string (strOf (c2 :: t2))) = W2 := ⟨_, rfl⟩
  have hbx : But (fun k => k = x) W1 W2 := by rw [← hW2]; exact (But.refl (fun k => k = x) W1).setCell rfl _
  have B2 : W2.cell? ⟨b, 2, none⟩ = some (.map (some (G.mb b))) := by rw [← hW2, World.cell?_setCell_other (h := fun e => by cases e)]; exact b2'
  have Y0 : W2.cell? ⟨y, 0, none⟩ = some (.string P) := hbx.cell y0 hyx
  have hFin : Hid (Tree rs T (G.half y m b x (c :: t) (c2 :: t2)) (putMap W2 (G.mb b) (es.modify j fun e => { e with key := .int .u8 (c.toNat : Int), val := .pointer (some ⟨y, 0, none⟩) }) ck)) := Lib.hid (by
    obtain ⟨g1, g2, g3, g4, g5, g6, g7, g8, g9, g10, g11⟩ := hall.out
    rw [← hW2]
    exact g1.half g2 g3 g4 g5 g6 g7 g8 g9 g10 g11 hxW hwy hwm hym hnH.out hWm.out)
  have hOw : Hid (But (OwnT G T) w W2 ∧ OwnT G T (G.mb b)) := Lib.hid ⟨(But.of_ext hxW).trans (hbx.mono fun k hk => .inl (by rw [hk]; exact ⟨hall.out.2.2.2.2.2.1, hall.out.2.2.2.2.2.2.1⟩)), .inr ⟨b, hall.out.2.1, rfl⟩⟩
  rw [hW2] at hupd ⊢
  clear hW2 hbx b2' y0 x1 fx1 hall hnH hWm hW2m hxW
  go_still_tail 10, (by kernel_rfl)
  change wpList _ _ _ _ _ W2.drew
  have hFin2 : Hid (Tree rs T (G.half y m b x (c :: t) (c2 :: t2)) (putMap W2.drew (G.mb b) (es.modify j fun e => { e with key := .int .u8 (c.toNat : Int), val := .pointer (some ⟨y, 0, none⟩) }) ck)) := Lib.hid (hFin.out.ext (w' := putMap W2.drew (G.mb b) (es.modify j fun e => { e with key := .int .u8 (c.toNat : Int), val := .pointer (some ⟨y, 0, none⟩) }) ck) ⟨rfl, rfl, rfl, Nat.le_refl _, fun _ _ => rfl⟩)
  have hOw2 : Hid (But (OwnT G T) w (putMap W2.drew (G.mb b) (es.modify j fun e => { e with key := .int .u8 (c.toNat : Int), val := .pointer (some ⟨y, 0, none⟩) }) ck)) := Lib.hid ((hOw.out.1.drew).trans ((putMap_but _ _ _ _).mono fun k hk => by rw [hk]; exact hOw.out.2))
  clear hFin hOw
  generalize (es.modify j fun e => { e with key := .int .u8 (c.toNat : Int), val := .pointer (some ⟨y, 0, none⟩) }) = es2 at *
  go_wp2
  go_ret
  exact ⟨y, m, rfl, hFin2.out, hOw2.out, hwy, hwm⟩

end Go.Proofs.YtdgcgpapcbjfhaaGreatDoor

/- Rules by their prefixes: the tree grows, walked. -/
namespace Go.Proofs.YtdgcgpapcbjfhaaGreatDoor
open Go.RowKit

theorem strEqC (t : List UInt8) (c : List UInt8) : ((strOf t).toList == c) = decide (t = c) := by rw [toList_bs, bs_strOf, Bool.eq_iff_iff, beq_iff_eq, decide_eq_true_iff]

theorem comm_self (a : List UInt8) : comm a a = a.length := comm_eq a a a.length (Nat.le_refl _) (Nat.le_refl _) rfl (.inl rfl)

/-- what grew, against what was -/
def Sub (G0 G : GT) (n : Nat) : Prop := ∀ k ∈ G.S, (k ∈ G0.S ∧ G.mb k = G0.mb k) ∨ (n ≤ k ∧ n ≤ G.mb k)
theorem own_sub {G0 G : GT} {T n k : Nat} (h : Sub G0 G n) (hk : k < n) (ho : OwnT G T k) : OwnT G0 T k := by
  rcases ho with ⟨h1, h2⟩ | ⟨b, h1, h2⟩
  · rcases h k h1 with h3 | h3
    · exact .inl ⟨h3.1, h2⟩
    · omega
  · rcases h b h1 with h3 | h3
    · exact .inr ⟨b, h3.1, by rw [← h3.2]; exact h2⟩
    · omega
theorem but_sub {G0 G : GT} {T : Nat} {w wr w1 : World} (h : Sub G0 G w.heap.size) (h1 : But (OwnT G0 T) w wr) (h2 : But (OwnT G T) wr w1) : But (OwnT G0 T) w w1 :=
  ⟨h2.os.trans h1.os, h2.tape.trans h1.tape, h2.output.trans h1.output, Nat.le_trans h1.size h2.size, fun k hk hn => (h2.block k (Nat.lt_of_lt_of_le hk h1.size) fun ho => hn (own_sub h hk ho)).trans (h1.block k hk hn)⟩
theorem Sub.refl (G : GT) (n : Nat) : Sub G G n := fun k hk => .inl ⟨hk, rfl⟩
theorem Sub.leaf {G0 G : GT} {n y m b : Nat} {s : List UInt8} (h : Sub G0 G n) (hy : n ≤ y) (hm : n ≤ m) : Sub G0 (G.leaf y m b s) n := by
  intro k hk
  by_cases e : k = y
  · subst e; right; simp [GT.leaf]; omega
  · have hk : k ∈ G.S := by simpa [GT.leaf, e] using hk
    simp only [GT.leaf, if_neg e]
    exact h k hk
theorem Sub.half {G0 G : GT} {n y m b x : Nat} {p q : List UInt8} (h : Sub G0 G n) (hy : n ≤ y) (hm : n ≤ m) : Sub G0 (G.half y m b x p q) n := by
  intro k hk
  by_cases e : k = y
  · subst e; right; simp [GT.half]; omega
  · have hk : k ∈ G.S := by simpa [GT.half, e] using hk
    simp only [GT.half, if_neg e]
    exact h k hk

/-- what holds at a round's head -/
structure GrowAt (rs : List Rl) (T : Nat) (G : GT) (w : World) (G' : GT) (b : Nat) (wr : World) : Prop where
  tree : Tree rs T G' wr
  mem : b ∈ G'.S
  ru : G'.ru T = G.ru T
  but : But (OwnT G T) w wr
  sub : Sub G G' w.heap.size

set_option maxRecDepth 100000 in
set_option maxHeartbeats 3200000 in
theorem pGrow {rs : List Rl} {T : Nat} {G : GT} {w : World} (h : Tree rs T G w) {b0 : Nat} (hb0 : b0 ∈ G.S) (s : List UInt8) (hs : s.length ≤ 1000000) :
    Calls Tryz.prog 137 #[.pointer (some ⟨b0, 0, none⟩), .string (strOf s)] w fun e w' => ∃ G' b, e = .returned (.pointer (some ⟨b, 0, none⟩)) ∧ (s = [] → b = b0) ∧ GrowAt rs T G w G' b w' := by
  have hG : Hid (GrowAt rs T G w G b0 w) := Lib.hid ⟨h, hb0, rfl, But.refl _ _, Sub.refl _ _⟩
  clear h hb0
  go_enter Tryz.func137, Tryz.ntmps137
  go_wp2
  go_loopw [0, 1, 5, 6] (fun nv sv _ _ wr => ∃ (G' : GT) (b : Nat) (s' : List UInt8), nv = .pointer (some ⟨b, 0, none⟩) ∧ sv = .string (strOf s') ∧ s'.length ≤ 1000000 ∧ Hid (GrowAt rs T G w G' b wr) ∧ Hid (s = [] → s' = [] ∧ b = b0)) (fun _ sv _ _ _ => match sv with | .string x => x.size | _ => 0)
  case atStart => exact ⟨G, b0, s, rfl, rfl, hs, hG, Lib.hid fun h => ⟨h, rfl⟩⟩
  case round =>
    obtain ⟨G', b, s', rfl, rfl, hs', hA, hE⟩ := hrel
    by_cases hne : s' = []
    · subst hne
      rw [show strOf [] = ⟨#[]⟩ from rfl]
      have hE2 : Hid (s = [] → b = b0) := Lib.hid fun h => (hE.out h).2
      clear hE
      go_wp2
      go_ret
      exact ⟨G', b, rfl, hE2.out, hA.out⟩
    · obtain ⟨c, t, rfl⟩ : ∃ c t, s' = c :: t := by cases s' with | nil => exact absurd rfl hne | cons c t => exact ⟨c, t, rfl⟩
      have hsn : Hid (s ≠ []) := Lib.hid fun h => by have := (hE.out h).1; cases this
      clear hE hne
      obtain ⟨K, hK⟩ : ∃ K, strOf (c :: t) = K := ⟨_, rfl⟩
      have hKs : K.size = t.length + 1 := by rw [← hK, ← bs_length, bs_strOf]; rfl
      have hK0 : ∀ hh : 0 < K.size, (K[0]'hh).toNat = c.toNat := fun hh => by
        rw [bs_at K 0 hh, ← hK, bs_strOf]; rfl
      have hKp : 0 < K.size := by omega
      have hKne : (K.toList == []) = false := by
        rw [← hK, strEqC]; simp
      have hKe : K.toList ≠ [] := by intro e; rw [e] at hKne; simp at hKne
      have hK0' := hK0 hKp
      have b2 := (hA.out.tree.node b hA.out.mem).c2
      have hb2 : ∀ w', Ext wr w' → w'.cell? ⟨b, 2, none⟩ = some (.map (some (G'.mb b))) := fun w' hz => hz.reads b2
      rcases hA.out.tree.look hA.out.mem c with ⟨es, ck, hm, hnd, hent, hno, hf, hlk⟩ | ⟨es, ck, j, x, tx, e0, hm, hnd, hent, hx1, hx2, hx3, hx4, hj, hjk, hjv, hf, hlk⟩
      · have hl2 : ∀ w', Ext wr w' → (Instr.lookup 185 (.map (some (G'.mb b))) (.int .u8 (c.toNat : Int)) false).run Tryz.prog w' = .ok (.pointer none) w' := fun w' hz =>
          lookN Tryz.underlying185 Tryz.underlying5 (fun b w => ckInt Tryz.underlying5 b _ _ w) ((Below.block hz _ (hA.out.tree.mlt hA.out.mem)).trans hm) hf zeroNode false
        obtain ⟨W1, hW1⟩ : ∃ W1, ((wr.alloc (.map #[] 0)).alloc (.cells #[.string K, .pointer none, .map (some wr.heap.size)] 187)).drew = W1 := ⟨_, rfl⟩
        have hx1 : Ext wr W1 := by rw [← hW1]; exact (((Ext.refl wr).alloc _).alloc _).drew
        have hWm : W1.heap[wr.heap.size]? = some (.map #[] 0) := by
          rw [← hW1]
          exact ((MapKept.heap_alloc _ _).2 _ (by simp)).trans (MapKept.heap_alloc wr _).1
        have hnode : NodeAt W1 (wr.heap.size + 1) (c :: t) none wr.heap.size := by
          rw [← hW1, ← hK]
          have hnew : ∀ i v, (#[.string (strOf (c :: t)), .pointer none, .map (some wr.heap.size)] : Array Value)[i]? = some v → ((wr.alloc (.map #[] 0)).alloc (.cells #[.string (strOf (c :: t)), .pointer none, .map (some wr.heap.size)] 187)).cell? ⟨wr.heap.size + 1, i, none⟩ = some v := by
            intro i v hv
            rw [show wr.heap.size + 1 = (wr.alloc (.map #[] 0)).heap.size by simp, World.cell?_alloc_new]; exact hv
          refine ⟨hnew 0 _ rfl, hnew 1 _ rfl, hnew 2 _ rfl, ?_, ?_⟩ <;> (rw [show wr.heap.size + 1 = (wr.alloc (.map #[] 0)).heap.size by simp]; exact frozen_new _ _ _ _)
        have hupd : (Instr.mapUpdate 185 (.map (some (G'.mb b))) (.int .u8 (c.toNat : Int)) (.pointer (some ⟨wr.heap.size + 1, 0, none⟩))).run Tryz.prog W1.drew = .ok () (putMap W1.drew (G'.mb b) (es.push { key := .int .u8 (c.toNat : Int), val := .pointer (some ⟨wr.heap.size + 1, 0, none⟩), born := ck }) (ck + 1)) :=
          insN _ Tryz.underlying185 Tryz.underlying5 (fun b w => ckInt Tryz.underlying5 b _ _ w) ((Below.block hx1 _ (hA.out.tree.mlt hA.out.mem)).trans hm) hf
        have hT2 : Hid (GrowAt rs T G w (G'.leaf (wr.heap.size + 1) wr.heap.size b (c :: t)) (wr.heap.size + 1) (putMap W1.drew (G'.mb b) (es.push { key := .int .u8 (c.toNat : Int), val := .pointer (some ⟨wr.heap.size + 1, 0, none⟩), born := ck }) (ck + 1))) := Lib.hid (by
          obtain ⟨g1, g2, g3, g4, g5⟩ := hA.out
          have hws := g4.size
          refine ⟨g1.leaf (w1 := W1.drew) g2 hm hnd hent hno hx1.drew (by omega) (Nat.le_refl _) ⟨hnode.c0, hnode.c1, hnode.c2, hnode.f0, hnode.f1⟩ hWm hs', by simp [GT.leaf], ?_, ?_, g5.leaf (by omega) (by omega)⟩
          · have := g1.lt g1.root
            simp only [GT.leaf]
            rw [if_neg (by omega)]; exact g3
          · exact but_sub g5 g4 ((But.of_ext hx1.drew).trans ((putMap_but _ _ _ _).mono fun k hk => by rw [hk]; exact .inr ⟨b, g2, rfl⟩)))
        have hCm := pCommon (c :: t) (c :: t) hs' hs'
        rw [comm_self, hK] at hCm
        have hQ : K.extract (t.length + 1) K.size = strOf [] := by rw [hKs, ← hK, extract_strOf]; simp
        rw [hKs] at hQ
        have B2 : W1.cell? ⟨b, 2, none⟩ = some (.map (some (G'.mb b))) := hx1.reads b2
        have Y0 : Hid ((putMap W1.drew (G'.mb b) (es.push { key := .int .u8 (c.toNat : Int), val := .pointer (some ⟨wr.heap.size + 1, 0, none⟩), born := ck }) (ck + 1)).cell? ⟨wr.heap.size + 1, 0, none⟩ = some (.string K)) := Lib.hid (by rw [← hK]; exact (hT2.out.tree.node _ hT2.out.mem |>.c0) ▸ (by simp [GT.leaf]))
        clear hlk hm hnd hent hno hf hA hnode hWm
        generalize hes2 : (es.push { key := .int .u8 (c.toNat : Int), val := .pointer (some ⟨wr.heap.size + 1, 0, none⟩), born := ck }) = es2 at *
        clear hes2
        have hmm := @run_makeMap Tryz.prog
        go_wp2
        go_region_held3 (Ext wr) (repeat (first | exact Ext.refl _ | assumption | apply Ext.drew | apply Ext.alloc | (refine Ext.setCell ?_ (by simp <;> omega) _) | refine Ext.trans ?_ (by assumption))) (fail)
        go_wp2
        go_still_tail 7, (by kernel_rfl)
        change wpList _ _ _ _ _ W1.drew
        generalize hyy : wr.heap.size + 1 = y at *
        generalize putMap W1.drew (G'.mb b) es2 (ck + 1) = W2 at *
        generalize (G'.leaf y wr.heap.size b (c :: t)) = G2 at *
        have y0 := Y0.out
        have hyl : y < W2.heap.size := World.block_lt_of_cell? W2 _ y0
        clear hl2 hb2 B2 b2 hW1 hx1 Y0 hyy
        go_wp2_with fail
        refine (hCm _).mono ?_
        rintro e W3 ⟨rfl, hx3⟩
        have y3 := hx3.reads y0
        have hT3 : Hid (GrowAt rs T G w G2 y W3) := Lib.hid (by
          obtain ⟨g1, g2, g3, g4, g5⟩ := hT2.out
          exact ⟨g1.ext hx3, g2, g3, g4.trans (But.of_ext hx3), g5⟩)
        have hlen : ((c :: t).length : Int) = (t.length : Int) + 1 := by simp
        have hsn3 := hsn
        clear hT2 y0 hx3 hCm hsn hK0' hKp hyl hupd
        rw [hlen]
        clear hlen hs'
        go_wp2
        go_quiet (fail)
        have hT4 : Hid (GrowAt rs T G w G2 y (W3.drewN nq)) := Lib.hid (by
          obtain ⟨g1, g2, g3, g4, g5⟩ := hT3.out
          exact ⟨g1.ext (below_drewN (Ext.refl _) nq), g2, g3, g4.trans (But.of_ext (below_drewN (Ext.refl _) nq)), g5⟩)
        clear hT3 y3
        go_wp2
        go_roundw
        case rel => exact ⟨G2, y, [], rfl, rfl, by simp, hT4, Lib.hid fun h => absurd h hsn3.out⟩
        case measure => (rw [hK]; show (0 : Nat) < K.size; omega)
      · have hl2 : ∀ w', Ext wr w' → (Instr.lookup 185 (.map (some (G'.mb b))) (.int .u8 (c.toNat : Int)) false).run Tryz.prog w' = .ok (.pointer (some ⟨x, 0, none⟩)) w' := fun w' hz =>
          lookY Tryz.underlying185 Tryz.underlying5 (fun b w => ckInt Tryz.underlying5 b _ _ w) ((Below.block hz _ (hA.out.tree.mlt hA.out.mem)).trans hm) hf false
        have hpl := hA.out.tree.plen x hx1
        rw [hx4] at hpl
        have hCm := pCommon (c :: tx) (c :: t) hpl hs'
        obtain ⟨n1, n2⟩ := comm_le (c :: tx) (c :: t)
        have n0 : 1 ≤ comm (c :: tx) (c :: t) := by unfold comm; try simp
        obtain ⟨nn, hnn⟩ : ∃ nn, comm (c :: tx) (c :: t) = nn := ⟨_, rfl⟩
        rw [hnn] at n0 n1 n2 hCm
        clear hnn
        have hQ : K.extract nn K.size = strOf ((c :: t).drop nn) := by
          rw [hKs, ← hK, extract_strOf, List.take_of_length_le (by simp)]
        rw [hKs] at hQ
        have hxn := hA.out.tree.node x hx1
        have x0 := hxn.c0
        rw [hx4] at x0
        obtain ⟨L, hL⟩ : ∃ L, strOf (c :: tx) = L := ⟨_, rfl⟩
        have hLs : L.size = tx.length + 1 := by rw [← hL, ← bs_length, bs_strOf]; rfl
        rw [hL] at x0 hCm
        rw [hK] at hCm
        have hxl := hA.out.tree.lt hx1
        have hdl : ((c :: t).drop nn).length ≤ 1000000 := by simp at hs'; simp; omega
        simp only [List.length_cons] at n1 n2
        by_cases hlt : nn < tx.length + 1
        · obtain ⟨t', c2, t2, hsp, hat⟩ : ∃ t' c2 t2, c :: tx = (c :: t') ++ (c2 :: t2) ∧ nn = (c :: t').length := by
            obtain ⟨c2, t2, h2⟩ : ∃ c2 t2, tx.drop (nn - 1) = c2 :: t2 := by
              cases hd : tx.drop (nn - 1) with
              | nil => have := congrArg List.length hd; simp at this; omega
              | cons c2 t2 => exact ⟨c2, t2, rfl⟩
            refine ⟨tx.take (nn - 1), c2, t2, ?_, by simp; omega⟩
            rw [List.cons_append, ← h2, List.take_append_drop]
          have hSp := fun W (hz : Ext wr W) => pSplitN (w := W) (hA.out.tree.ext hz) hA.out.mem ((Below.block hz _ (hA.out.tree.mlt hA.out.mem)).trans hm) hnd hent hx1 hx2 hx3 (hx4.trans hsp) hj hjk hf hat
          have hlt' : (nn : Int) < (tx.length : Int) + 1 := by omega
          clear hpl hxn hlk hf hj hjk hjv hm hnd hent hsp hat hx1 hx2 hx3 hx4
          go_wp2
          go_region_held3 (Ext wr) (repeat (first | exact Ext.refl _ | assumption | apply Ext.drew | apply Ext.alloc | (refine Ext.setCell ?_ (by simp <;> omega) _) | refine Ext.trans ?_ (by assumption))) (fail)
          go_wp2_with fail
          refine (hCm _).mono ?_
          rintro e W3 ⟨rfl, hx3⟩
          have hx3' : Ext wr W3 := ((Ext.refl wr).drew).trans hx3
          have x3 := hx3'.reads x0
          have hSp3 := hSp W3 hx3'
          clear hSp hCm hl2 hb2 b2
          go_wp2_with fail
          refine hSp3.mono ?_
          rintro e W4 ⟨y, m, rfl, hT4, hb4, hy4, hm4⟩
          have hT5 : Hid (GrowAt rs T G w (G'.half y m b x (c :: t') (c2 :: t2)) y W4) := Lib.hid (by
            obtain ⟨g1, g2, g3, g4, g5⟩ := hA.out
            have hs3 := hx3'.size
            have hs4 := g4.size
            refine ⟨hT4, by simp [GT.half], ?_, ?_, g5.half (by omega) (by omega)⟩
            · have := g1.lt g1.root
              simp only [GT.half]
              rw [if_neg (by omega)]; exact g3
            · exact but_sub g5 g4 ((But.of_ext hx3').trans hb4))
          clear hSp3 hT4 hb4 hA hx3 hx3' x3 x0 hy4 hm4
          generalize (G'.half y m b x (c :: t') (c2 :: t2)) = G2 at *
          go_wp2
          go_quiet (fail)
          have hT6 : Hid (GrowAt rs T G w G2 y (W4.drewN nq)) := Lib.hid (by
            obtain ⟨g1, g2, g3, g4, g5⟩ := hT5.out
            exact ⟨g1.ext (below_drewN (Ext.refl _) nq), g2, g3, g4.trans (But.of_ext (below_drewN (Ext.refl _) nq)), g5⟩)
          clear hT5
          go_wp2
          go_roundw
          case rel => exact ⟨G2, y, (c :: t).drop nn, rfl, rfl, hdl, hT6, Lib.hid fun h => absurd h hsn.out⟩
          case measure => (rw [hK]; show (strOf ((c :: t).drop nn)).size < K.size; rw [hKs, ← bs_length, bs_strOf]; simp; omega)
        · obtain rfl : nn = tx.length + 1 := by omega
          have hT5 : ∀ W, Ext wr W → Hid (GrowAt rs T G w G' x W) := fun W hz => Lib.hid (by
            obtain ⟨g1, g2, g3, g4, g5⟩ := hA.out
            exact ⟨g1.ext hz, hx1, g3, g4.trans (But.of_ext hz), g5⟩)
          clear hpl hxn hlk hf hj hjk hjv hm hnd hent hx1 hx2 hx3 hx4 hA
          go_wp2
          go_region_held3 (Ext wr) (repeat (first | exact Ext.refl _ | assumption | apply Ext.drew | apply Ext.alloc | (refine Ext.setCell ?_ (by simp <;> omega) _) | refine Ext.trans ?_ (by assumption))) (fail)
          go_wp2_with fail
          refine (hCm _).mono ?_
          rintro e W3 ⟨rfl, hx3⟩
          have hx3' : Ext wr W3 := ((Ext.refl wr).drew).trans hx3
          have x3 := hx3'.reads x0
          have hT6 : ∀ nq, Hid (GrowAt rs T G w G' x (W3.drewN nq)) := fun nq => hT5 _ (below_drewN hx3' nq)
          clear hCm hl2 hb2 b2 hx3 hx3' x0 hT5
          go_wp2
          go_quiet (fail)
          have hT7 := hT6 nq
          clear hT6 x3
          go_wp2
          go_roundw
          case rel => exact ⟨G', x, (c :: t).drop (tx.length + 1), rfl, rfl, hdl, hT7, Lib.hid fun h => absurd h hsn.out⟩
          case measure => (rw [hK]; show (strOf ((c :: t).drop (tx.length + 1))).size < K.size; rw [hKs, ← bs_length, bs_strOf]; simp; omega)

end Go.Proofs.YtdgcgpapcbjfhaaGreatDoor
