/- A gate's policy. -/
import Derived.Test.YtdgcgpapcbjfhaaGreatDoorJ35GateT
import Derived.Test.YtdgcgpapcbjfhaaGreatDoorJ09CfgE
import Derived.Test.YtdgcgpapcbjfhaaGreatDoorJ27Same
import Derived.Test.YtdgcgpapcbjfhaaGreatDoorJ22Rdr
set_option linter.unusedVariables false
set_option linter.unusedSimpArgs false

/- A gate takes in rules. -/
namespace Go.Proofs.YtdgcgpapcbjfhaaGreatDoor
open Go.RowKit

/-- a gate by rules: its table t with the map mb, its policy's box P, its tree T -/
structure RulesGate (w : World) (g t P T : Nat) (v : Value) (m : Nat) (ck : Int) (rs : List Rl) (G : GT) (mb : Nat) (es : Array MapEntry) (mk : Nat) (tx ty : Nat) : Prop where
  gate : GateAt w g t (some ⟨P, 0, none⟩) (some ⟨T, 0, none⟩) tx ty
  tab : TabAt w t m ck mb es mk
  p0 : w.cell? ⟨P, 0, none⟩ = some (.int .i64 m)
  p1 : w.cell? ⟨P, 1, none⟩ = some v
  rules : RulesAt w v rs
  tree : Tree rs T G w
  dflt : ∃ x, G.ru T = some x
  apart : ∀ b ∈ G.S, mb ≠ G.mb b

theorem Tree.but1 {rs : List Rl} {T : Nat} {G : GT} {w w' : World} {z : Nat} {x : Value} (h : Tree rs T G w) (hb : But (fun k => k = z) w w') (hz : w.cell? ⟨z, 0, none⟩ = some x) (hx : ∀ s, x ≠ .string s) : Tree rs T G w' := by
  refine h.but hb ?_ ?_ ?_
  · rintro b hs rfl
    have h1 := (h.node b hs).c0
    rw [hz] at h1; cases h1; exact hx _ rfl
  · rintro b hs e
    obtain ⟨es, ck, hm, _⟩ := h.maps b hs
    rw [e] at hm
    exact cells_no_map hz hm
  · rintro b hs y hy rfl
    obtain ⟨r, hr, hbx⟩ := h.rul b hs y hy
    have h1 := hbx.1
    rw [hz] at h1; cases h1; exact hx _ rfl
theorem RulesAt.but1 {w w' : World} {v : Value} {rs : List Rl} {z : Nat} {y : Value} (h : RulesAt w v rs) (hb : But (fun k => k = z) w w') (hz : w.cell? ⟨z, 0, none⟩ = some y) (hy : ∀ s, y ≠ .string s) : RulesAt w' v rs := by
  refine h.but hb ?_
  intro x hx e
  subst e
  by_cases hr : rs = []
  · rw [h.1 hr] at hx; simp [Value.ownBlock] at hx
  · obtain ⟨a, cp, rfl, hf⟩ := h.form
    obtain ⟨g, rfl, _⟩ := hf hr
    simp [Value.ownBlock] at hx
    subst hx
    have := (RulesAt.cells h (i := 0) (Nat.pos_of_ne_zero fun e => hr (List.eq_nil_of_length_eq_zero e))).1
    rw [show (0 : Nat) * 4 = 0 from rfl, hz] at this
    cases this
    exact hy _ rfl
theorem RulesGate.but1 {w w' : World} {g t P T : Nat} {v : Value} {m : Nat} {ck : Int} {rs : List Rl} {G : GT} {mb : Nat} {es : Array MapEntry} {mk tx ty : Nat} {z : Nat} {y : Value} (h : RulesGate w g t P T v m ck rs G mb es mk tx ty) (hb : But (fun k => k = z) w w') (hz : w.cell? ⟨z, 0, none⟩ = some y) (hy : ∀ s, y ≠ .string s) (hg : g ≠ z) (ht : t ≠ z) (hP : P ≠ z) : RulesGate w' g t P T v m ck rs G mb es mk tx ty :=
  ⟨h.gate.but hb hg, h.tab.but hb ht (fun e => cells_no_map hz (e ▸ h.tab.m)), hb.cell h.p0 hP, hb.cell h.p1 hP, h.rules.but1 hb hz hy, h.tree.but1 hb hz hy, h.dflt, h.apart⟩
theorem RulesGate.ext {w w' : World} {g t P T : Nat} {v : Value} {m : Nat} {ck : Int} {rs : List Rl} {G : GT} {mb : Nat} {es : Array MapEntry} {mk tx ty : Nat} (h : RulesGate w g t P T v m ck rs G mb es mk tx ty) (hx : Ext w w') : RulesGate w' g t P T v m ck rs G mb es mk tx ty :=
  ⟨h.gate.ext hx, h.tab.ext hx, hx.reads h.p0, hx.reads h.p1, h.rules.ext hx, h.tree.ext hx, h.dflt, h.apart⟩

set_option maxRecDepth 100000 in
set_option maxHeartbeats 3200000 in
theorem pReload (g t : Nat) (p tr : Option Addr) (tx ty : Nat) (mo ck : Int) (h0 : 0 ≤ ck) (mb mk : Nat) (tick to : Int) (ba : Option Addr) (bc : Nat) (key : ByteArray) (l : List UInt8) (hl : l.length ≤ 900000) (hcap : l.length ≤ bc) (w : World) (hb : IsBytes w ba l)
    (hg : GateAt w g t p tr tx ty) (hT : TabAt w t mo ck mb #[] mk) (hgt : g ≠ t) :
    Calls Tryz.prog 71 #[.pointer (some ⟨g, 0, none⟩), opV 5 tick (.slice ba l.length bc) key to] w fun e w' => ∃ a, e = .returned (ansV a) ∧ But (fun k => k = g ∨ k = t) w w' ∧
      (((cfg l).2.1 ≠ 0 ∧ a.code = 7 ∧ Ext w w') ∨
       ((cfg l).2.1 = 0 ∧ a.code = 6 ∧ (∃ t2 P T v G mb2, RulesGate w' g t2 P T v (cfg l).1.most ck (cfg l).1.rules G mb2 #[] 0 tx ty ∧ w.heap.size ≤ mb2 ∧ w.heap.size ≤ t2))) := by
  have hP := fun W (hx : Ext w W) => pCfg ba bc l hl hcap W (hb.ext hx)
  have hok := Lib.hid (cfg_okk l)
  generalize cfg l = C at *
  obtain ⟨⟨m, rs⟩, er, p1, p2⟩ := C
  dsimp only at hP hok ⊢
  unfold plV at hP
  unfold opV
  go_enter Tryz.func71, Tryz.ntmps71
  obtain ⟨B, hB⟩ : ∃ B, w.heap.size = B := ⟨_, rfl⟩
  obtain ⟨W, hW⟩ : ∃ W, (w.alloc (.cells #[.int .u8 5, .int .i64 tick, .slice ba l.length bc, .string key, .int .u8 to] 37)).alloc (.cells #[.int .u8 0, .int .u16 0, .int .u64 0, .int .u64 0, .int .u64 0, .int .u64 0, .int .u64 0, .bool false, .int .i64 0, .slice none 0 0] 43) = W := ⟨_, rfl⟩
  have hx0 : Ext w W := by rw [← hW]; exact ((Ext.refl w).alloc _).alloc _
  have hrs : Hid (ZeroAns W (B + 1)) := Lib.hid (by subst hW hB; exact ⟨⟨by go_simp, by go_simp, by go_simp, by go_simp, by go_simp, by go_simp, by go_simp, by go_simp, by go_simp, by go_simp⟩, by go_simp, by go_simp, by go_simp, by go_simp, by go_simp, by go_simp, by go_simp, by go_simp, by go_simp, by go_simp⟩)
  have k2 : W.cell? ⟨B, 2, none⟩ = some (.slice ba l.length bc) := by subst hW hB; go_simp
  have hszW : W.heap.size = B + 2 := by subst hW hB; simp
  have hBw := Lib.hid hB
  go_wp2_with fail
  refine (hP W hx0).mono ?_
  rintro e W1 ⟨v, rfl, hv, hx1⟩
  obtain ⟨va, vc, rfl, -⟩ := hv.form
  have hvH := Lib.hid hv
  clear hv
  have hz1 : ZeroAns W1 (B + 1) := hrs.out.but (But.of_ext hx1) (show ¬ W.heap.size ≤ B + 1 by omega)
  clear hP hrs k2
  by_cases he : er = 0
  · subst he
    obtain ⟨o1, o2, o3, o4, -, o6⟩ := hok.out rfl
    have hok4 : Hid (∀ r ∈ rs, r.pre.length ≤ 1000000) := Lib.hid fun r hr => by
      rcases (o4 r hr).1 with h | h
      · rw [h]; simp
      · unfold kRight at h; simp at h; omega
    have o6H := Lib.hid o6
    obtain ⟨P, hPn⟩ : ∃ P, W1.heap.size = P := ⟨_, rfl⟩
    obtain ⟨W3, hW3⟩ : ∃ W3, (W1.alloc (.cells #[.int .i64 m, .slice va rs.length vc] 30)).alloc (.cells #[.int .i64 p1, .int .i64 p2] 57) = W3 := ⟨_, rfl⟩
    have hx13 : Ext W1 W3 := by rw [← hW3]; exact ((Ext.refl W1).alloc _).alloc _
    have c0 : W3.cell? ⟨P, 0, none⟩ = some (.int .i64 m) := by subst hW3 hPn; go_simp
    have c1 : W3.cell? ⟨P, 1, none⟩ = some (.slice va rs.length vc) := by subst hW3 hPn; go_simp
    have hx03 : Ext w W3 := (hx0.trans hx1).trans hx13
    have hg3 := hg.ext hx03
    have hT3 := hT.ext hx03
    have hv3 := hvH.out.ext hx13
    have htl : t < w.heap.size := World.block_lt_of_cell? w _ hT.c0
    have hsz1 := hx1.size
    have hPt : ¬ P = t := by omega
    have hz3 := Lib.hid (hz1.but (But.of_ext hx13) (show ¬ W1.heap.size ≤ B + 1 by omega))
    clear hW hB o4 o6
    have hst : BothS W3 t mo ck mb mk W3 := ⟨hT3, But.refl _ _⟩
    have hl0 : ∀ w', BothS W3 t mo ck mb mk w' → w'.cell? ⟨g, 0, none⟩ = some (.pointer (some ⟨t, 0, none⟩)) := fun w' h => h.but.cell hg3.c0 hgt
    have hl1 : ∀ w', BothS W3 t mo ck mb mk w' → w'.cell? ⟨P, 0, none⟩ = some (.int .i64 m) := fun w' h => h.but.cell c0 hPt
    have hl2 : ∀ w', BothS W3 t mo ck mb mk w' → w'.cell? ⟨P, 1, none⟩ = some (.slice va rs.length vc) := fun w' h => h.but.cell c1 hPt
    have hrB : ∀ w', BothS W3 t mo ck mb mk w' → RulesAt w' (.slice va rs.length vc) rs := fun w' h => hv3.but h.but (fun k e he => hv3.ne hT3.c0 k e he)
    have hKp : ∀ w', BothS W3 t mo ck mb mk w' → Calls Tryz.prog 100 #[.pointer (some ⟨t, 0, none⟩), .agg #[.int .i64 m, .slice va rs.length vc]] w' fun e w'' => (∃ t2 mb2, e = .returned (.tuple #[.pointer (some ⟨t2, 0, none⟩), .int .i64 0, .int .u16 0]) ∧ Hid (TabAt w'' t2 m ck mb2 #[] 0 ∧ W3.heap.size ≤ t2 ∧ W3.heap.size ≤ mb2)) ∧ BothS W3 t mo ck mb mk w'' := fun w' h => (pKeep0 t mo ck h0 mb mk m o1 o2 _ rs o3 hok4.out w' h.tab (hrB w' h)).mono fun e w'' ⟨t2, mb2, h1, h2, h3, h4, h5, h6⟩ => by
      have hs1 := h.but.size
      exact ⟨⟨t2, mb2, h1, Lib.hid ⟨h2, by omega, by omega⟩⟩, h6, h.but.trans h5⟩
    have hFs := Lib.hid (And.intro hst (And.intro hl0 (And.intro hl1 (And.intro hl2 hKp))))
    have hg3H := Lib.hid hg3
    have hrBH := Lib.hid hrB
    have hcP := Lib.hid (And.intro c0 c1)
    have hP3 : P < W3.heap.size := World.block_lt_of_cell? W3 _ c0
    have hgw : g < w.heap.size := World.block_lt_of_cell? w _ hg.c0
    have hx03H := Lib.hid hx03
    have htB : Hid (t < w.heap.size ∧ ¬ B + 1 = t) := Lib.hid ⟨htl, by have := hBw.out; omega⟩
    have hPB : Hid (¬ P = B + 1 ∧ ¬ g = B + 1 ∧ ¬ P = g) := Lib.hid ⟨by omega, by have := hBw.out; omega, by have := hBw.out; omega⟩
    clear hrB hv3 hT3 hg3 hx13 hx03 hx0 hx1 c0 c1 hb hg hT htl hsz1 hszW hok hz1 hvH hl0 hl1 hl2 hKp hst
    go_wp2
    clear hPn hW3
    obtain ⟨hst, hl0, hl1, hl2, hKp⟩ := hFs.out
    go_region_held3 (BothS W3 t mo ck mb mk) (first | assumption | exact BothS.drew (by assumption)) (first
      | (go_at_call 100; refine (hKp _ (by assumption)).mono ?_; rintro e w9 ⟨⟨t2, mb2, rfl, h2⟩, hb⟩))
    have hl9 := hl2 w9 hb
    have hr9 := hrBH.out w9 hb
    have hbH := Lib.hid hb
    clear hl0 hl1 hl2 hKp hrBH hb hst hFs
    go_wp2_with fail
    refine (pTreeNew _ rs o3 hok4.out w9 hr9).mono ?_
    rintro e w10 ⟨T, G, rfl, hN⟩
    have hgg := (hg3H.out.but hbH.out.but hgt).ext hN.ext
    have hRG : Hid (∀ W5, ((w10.setCell ⟨g, 0, none⟩ (.pointer (some ⟨t2, 0, none⟩))).setCell ⟨g, 1, none⟩ (.pointer (some ⟨P, 0, none⟩))).setCell ⟨g, 2, none⟩ (.pointer (some ⟨T, 0, none⟩)) = W5 → But (fun k => k = g) w10 W5 ∧ RulesGate W5 g t2 P T (.slice va rs.length vc) m ck rs G mb2 #[] 0 tx ty) := Lib.hid (by
      intro W5 hW5
      have hb5 : But (fun k => k = g) w10 W5 := by rw [← hW5]; exact (((But.refl (fun k => k = g) w10).setCell rfl _).setCell rfl _).setCell rfl _
      obtain ⟨d0, d1, d2, d3, f0, f1, f2, f3⟩ := hgg
      obtain ⟨hT2, hl1, hl2⟩ := h2.out
      have hs9 := hbH.out.but.size
      have hgl3 : g < W3.heap.size := by have := hx03H.out.size; omega
      have hPg : P ≠ g := hPB.out.2.2
      refine ⟨hb5, ?_, (hT2.ext hN.ext).but hb5 (by omega) (by omega), hb5.cell (hN.ext.reads (hbH.out.but.cell hcP.out.1 hPt)) hPg, hb5.cell (hN.ext.reads (hbH.out.but.cell hcP.out.2 hPt)) hPg, (hr9.ext hN.ext).but1 hb5 d0 (by intro s h; cases h), hN.tree.but1 hb5 d0 (by intro s h; cases h), hN.dflt (by rw [List.take_length]; exact o6H.out), fun b hs e => ?_⟩
      · subst hW5
        refine ⟨by go_simp, by go_simp, by go_simp, by go_simp, ?_, ?_, ?_, ?_⟩ <;> (simp only [World.frozen?_setCell]; assumption)
      · have h5 := (hN.low b hs).2
        have h6 : mb2 < w9.heap.size := (Array.getElem?_eq_some_iff.1 hT2.m).1
        omega)
    have hw10 : Hid (But (fun k => k = g ∨ k = t) w w10 ∧ ZeroAns w10 (B + 1)) := Lib.hid (by
      have hz9 := hz3.out.but hbH.out.but htB.out.2
      exact ⟨((But.of_ext hx03H.out).trans (hbH.out.but.mono (fun k h => Or.inr h))).trans (But.of_ext hN.ext), hz9.but (But.of_ext hN.ext) (Nat.not_le.2 (World.block_lt_of_cell? w9 _ hz9.1.1))⟩)
    have hm2 : Hid (w.heap.size ≤ mb2 ∧ w.heap.size ≤ t2) := Lib.hid (by have h5 := h2.out.2.2; have h7 := h2.out.2.1; have h6 := hx03H.out.size; omega)
    have ht2 : Hid (t2 ≠ B + 1) := Lib.hid (by have h5 := h2.out.2.1; have h6 : B + 1 < W3.heap.size := World.block_lt_of_cell? W3 _ hz3.out.1.1; omega)
    have hNH := Lib.hid hN
    have hggH := Lib.hid hgg
    obtain ⟨d0, d1, d2, -, f0, f1, f2, -⟩ := hgg
    clear hl9 hr9 hN hNH hbH hcP hg3H hz3 hggH h2
    go_wp2_with fail
    refine (pDone 0 _).mono ?_
    rintro e w11 ⟨rfl, hx11⟩
    obtain ⟨hb5, hRG5⟩ := hRG.out _ rfl
    have hR11 := Lib.hid (hRG5.ext hx11)
    have hz11 := Lib.hid ((hw10.out.2.but hb5 (fun e => hPB.out.2.1 e.symm)).but (But.of_ext hx11) (Nat.not_le.2 (World.block_lt_of_cell? _ _ (hw10.out.2.but hb5 (fun e => hPB.out.2.1 e.symm)).1.1)))
    obtain ⟨⟨a0, a1, a2, a3, a4, a5, a6, a7, a8, a9⟩, b0, b1, b2, b3, b4, b5, b6, b7, b8, b9⟩ := hz11.out
    have hS := Lib.hid (ans_store w11 (B + 1) hz11.out ⟨6, 0, 0, 0, 0, 0, 0, false, 0⟩)
    have hw11 := Lib.hid ((hw10.out.1.trans (hb5.mono (fun k h => Or.inl h))).trans (But.of_ext hx11))
    have hdz : Hid (w11.cell? ⟨B + 1, 0, none⟩ = some (.int .u8 0)) := Lib.hid a0
    clear hRG hb5 hRG5 hx11 hz11 hw10 d0 d1 d2 f0 f1 f2
    simp only [ansV]
    go_wp2
    obtain ⟨h1, h2⟩ := hS.out _ rfl
    have hrg := hR11.out.but1 h1 hdz.out (by intro s h; cases h) hPB.out.2.1 ht2.out hPB.out.1
    refine bodyPost_ret (ans_reload rfl h2) rfl ⟨⟨6, 0, 0, 0, 0, 0, 0, false, 0⟩, rfl, hw11.out.fresh h1 (by rintro i rfl; have := hBw.out; omega), ?_⟩
    first
      | exact .inr ⟨rfl, rfl, t2, P, T, _, G, mb2, hrg, hm2.out⟩
      | exact ⟨rfl, t2, P, T, _, G, mb2, hrg, hm2.out⟩
      | exact ⟨t2, P, T, _, G, mb2, hrg, hm2.out⟩
  · have hbx : Hid (Ext w W1) := Lib.hid (hx0.trans hx1)
    clear hW hB
    have hz2 := Lib.hid hz1
    clear hz1
    go_wp2_with fail
    refine (pFailed er _).mono ?_
    rintro e W2 ⟨rfl, hx2⟩
    have hsz1 := hx1.size
    have hx12 : Ext W1 W2 := Ext.trans (((Ext.refl W1).alloc _).alloc _) hx2
    have hz10 := Lib.hid (hz2.out.but (But.of_ext hx12) (show ¬ W1.heap.size ≤ B + 1 by omega))
    obtain ⟨⟨a0, a1, a2, a3, a4, a5, a6, a7, a8, a9⟩, b0, b1, b2, b3, b4, b5, b6, b7, b8, b9⟩ := hz10.out
    have hS := Lib.hid (ans_store W2 (B + 1) hz10.out ⟨7, er, 0, 0, 0, 0, 0, false, 0⟩)
    have hxw2 := Lib.hid (hbx.out.trans hx12)
    clear hz2 hz10 hbx hx2 hx12 hx1 hsz1 hszW hx0
    simp only [ansV]
    go_wp2
    obtain ⟨h1, h2⟩ := hS.out _ rfl
    have hf := (But.of_ext (S := fun _ => False) hxw2.out).fresh h1 (by rintro i rfl; have := hBw.out; omega)
    exact bodyPost_ret (ans_reload rfl h2) rfl ⟨⟨7, er, 0, 0, 0, 0, 0, false, 0⟩, rfl, hf.mono (fun _ h => h.elim), by first | exact .inl ⟨he, rfl, hf.ext (Ext.refl _) (fun _ h => h.elim)⟩ | exact ⟨rfl, hf.ext (Ext.refl _) (fun _ h => h.elim)⟩⟩

end Go.Proofs.YtdgcgpapcbjfhaaGreatDoor

/- A gate's tally. -/
namespace Go.Proofs.YtdgcgpapcbjfhaaGreatDoor
open Go.RowKit

@[local go_sem] theorem run_store_complexT {P : Program} (w : World) (a : Addr) (m : Mode) (k : FloatKind) (x y : Nat) : (store a (.complex k x y) m).run P w = stored P w a (.complex k x y) m := run_store P w a _ m rfl

set_option maxHeartbeats 1600000 in
theorem pTally (R GB g : Nat) (code : Int) (w : World) (hr : w.cell? ⟨R, 0, none⟩ = some (.int .u8 code)) (hg : w.cell? ⟨GB, 0, none⟩ = some (.pointer (some ⟨g, 0, none⟩))) (x y : Nat) (h3 : w.cell? ⟨g, 3, none⟩ = some (.complex .f64 x y)) (f3 : w.frozen? ⟨g, 3, none⟩ = false)
    (a1 b1 a2 b2 : Nat) (h1 : ∀ w, (binOp BinOp.add 108 (.complex .f64 x y) (.complex .f64 4607182418800017408 0)).run Tryz.prog w = .ok (.complex .f64 a1 b1) w) (h2 : ∀ w, (binOp BinOp.add 108 (.complex .f64 x y) (.complex .f64 0 4607182418800017408)).run Tryz.prog w = .ok (.complex .f64 a2 b2) w) :
    Calls Tryz.prog 92 #[.pointer (some ⟨R, 0, none⟩), .pointer (some ⟨GB, 0, none⟩)] w fun e w' => (∃ v, e = .returned v) ∧ w' = w.setCell ⟨g, 3, none⟩ (if code = 1 then .complex .f64 a1 b1 else .complex .f64 a2 b2) := by
  by_cases hc : code = 1
  · subst hc
    rw [if_pos rfl]
    go_enter Tryz.func92, Tryz.ntmps92
    go_wp2
    go_end0
    exact ⟨⟨_, rfl⟩, rfl⟩
  · rw [if_neg hc]
    go_enter Tryz.func92, Tryz.ntmps92
    go_wp2
    go_end0
    exact ⟨⟨_, rfl⟩, rfl⟩

theorem cadd0 : ∀ w, (binOp BinOp.add 108 (.complex .f64 0 0) (.complex .f64 4607182418800017408 0)).run Tryz.prog w = .ok (.complex .f64 4607182418800017408 0) w := fun w => by kernel_rfl

end Go.Proofs.YtdgcgpapcbjfhaaGreatDoor

/- A gate's policy. -/
namespace Go.Proofs.YtdgcgpapcbjfhaaGreatDoor
open Go.RowKit

theorem pPolNone (g t : Nat) (tr : Option Addr) (x y : Nat) (w : World) (hg : GateAt w g t none tr x y) :
    Calls Tryz.prog 19 #[.pointer (some ⟨g, 0, none⟩)] w fun e w' => e = .returned (.tuple #[plV 0 (.slice none 0 0), .bool false]) ∧ Ext w w' := by
  have hgl : g < w.heap.size := World.block_lt_of_cell? w _ hg.c0
  have c1 := hg.c1
  clear hg
  unfold plV
  go_enter Tryz.func19, Tryz.ntmps19
  go_wp2
  exact bodyPost_ret (v := .tuple #[.agg #[.int .i64 0, .slice none 0 0], .bool false]) (by simp [results, Tryz.results19, go_sem]) rfl ⟨rfl, by repeat (first | exact Ext.refl _ | assumption | apply Ext.drew | apply Ext.alloc | (refine Ext.setCell ?_ (by simp <;> omega) _) | refine Ext.trans ?_ (by assumption))⟩

theorem pPolSome (g t P T m mb mk : Nat) (v : Value) (ck : Int) (rs : List Rl) (G : GT) (es : Array MapEntry) (tx ty : Nat) (w : World) (h : RulesGate w g t P T v m ck rs G mb es mk tx ty) (hne : rs ≠ []) (hn : rs.length ≤ 1000) (hd : rs.Pairwise (fun a b => a.pre ≠ b.pre)) :
    Calls Tryz.prog 19 #[.pointer (some ⟨g, 0, none⟩)] w fun e w' => ∃ va n vc, e = .returned (.tuple #[.agg #[.int .i64 m, .slice va n vc], .bool true]) ∧ Ext w w' := by
  have hgl : g < w.heap.size := World.block_lt_of_cell? w _ h.gate.c0
  have hPl : P < w.heap.size := World.block_lt_of_cell? w _ h.p0
  have c1 := h.gate.c1
  have p0 := h.p0
  have p1 := h.p1
  have hO : ∀ w', Ext w w' → Calls Tryz.prog 38 #[plV m v] w' fun e w'' => ∃ v', e = .returned (plV m v') ∧ RulesAt w'' v' (sortR rs) ∧ Ext w' w'' := fun w' hx => pOrder m v rs hne hn hd w' (h.rules.ext hx)
  obtain ⟨va, vc, rfl, -⟩ := h.rules.form
  clear h hne hd
  unfold plV at hO
  go_enter Tryz.func19, Tryz.ntmps19
  go_wp2_with fail
  refine (hO _ ((Ext.refl w).alloc _)).mono ?_
  rintro e w1 ⟨v', rfl, hv, hx⟩
  obtain ⟨va', vc', rfl, -⟩ := hv.form
  have r0 : w1.cell? ⟨w.heap.size, 0, none⟩ = some (.int .i64 0) := hx.reads (by go_simp)
  have r1 : w1.cell? ⟨w.heap.size, 1, none⟩ = some (.slice none 0 0) := hx.reads (by go_simp)
  have f0 : w1.frozen? ⟨w.heap.size, 0, none⟩ = false := hx.free (v := .int .i64 0) (by go_simp) (by go_simp)
  have f1 : w1.frozen? ⟨w.heap.size, 1, none⟩ = false := hx.free (v := .slice none 0 0) (by go_simp) (by go_simp)
  have hL : (sortR rs).length = (sortR rs).length := rfl
  generalize (sortR rs).length = n' at *
  clear hv
  go_wp2
  exact bodyPost_ret (v := .tuple #[.agg #[.int .i64 m, .slice va' n' vc'], .bool true]) (by simp [results, Tryz.results19, go_sem, r0, r1]) rfl ⟨va', n', vc', rfl, by repeat (first | exact Ext.refl _ | assumption | apply Ext.drew | apply Ext.alloc | (refine Ext.setCell ?_ (by simp <;> omega) _) | refine Ext.trans ?_ (by assumption))⟩

end Go.Proofs.YtdgcgpapcbjfhaaGreatDoor
