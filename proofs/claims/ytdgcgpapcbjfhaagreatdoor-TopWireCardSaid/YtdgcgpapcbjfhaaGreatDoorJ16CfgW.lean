/- A text of rules, by the reference: the walk. -/
import Derived.Test.YtdgcgpapcbjfhaaGreatDoorJ15OrdR
import Derived.Test.YtdgcgpapcbjfhaaGreatDoorJ12SplitR
set_option linter.unusedVariables false
set_option linter.unusedSimpArgs false

/- A text of rules, by the reference: the walk. -/
namespace Go.Proofs.YtdgcgpapcbjfhaaGreatDoor
open Go.RowKit

/-- a block whose first cell is a number holds no rules -/
theorem RulesAt.ne {w : World} {v : Value} {rs : List Rl} {B : Nat} {n : Int} (h : RulesAt w v rs) (hc : w.cell? ⟨B, 0, none⟩ = some (.int .i64 n)) : ∀ x, v.ownBlock = some x → x ≠ B := by
  intro x hx e
  subst e
  by_cases hr : rs = []
  · rw [h.1 hr] at hx; simp [Value.ownBlock] at hx
  · obtain ⟨a, cp, rfl, hf⟩ := h.form
    obtain ⟨g, rfl, _⟩ := hf hr
    simp [Value.ownBlock] at hx
    subst hx
    have := (RulesAt.cells h (i := 0) (Nat.pos_of_ne_zero fun e => hr (List.eq_nil_of_length_eq_zero e))).1
    rw [show (0 : Nat) * 4 = 0 from rfl, hc] at this
    cases this
theorem LinesAt.form {w : World} {v : Value} {ls : List (List Wd)} (h : LinesAt w v ls) : ∃ a cp, v = .slice a ls.length cp ∧ (ls ≠ [] → ∃ g, a = some ⟨g, 0, none⟩ ∧ ls.length ≤ cp ∧ ∀ k, k < ls.length → ls.getD k [] ≠ [] → ∃ gr cr, w.cell? ⟨g, k, none⟩ = some (.slice (some ⟨gr, 0, none⟩) (ls.getD k []).length cr) ∧ (ls.getD k []).length ≤ cr ∧
      ∀ i, i < (ls.getD k []).length → w.cell? ⟨gr, i * 3, none⟩ = some (.string (strOf ((ls.getD k []).getD i noWd).txt)) ∧ w.cell? ⟨gr, i * 3 + 1, none⟩ = some (.int .i64 (((ls.getD k []).getD i noWd).ln : Int)) ∧ w.cell? ⟨gr, i * 3 + 2, none⟩ = some (.int .i64 (((ls.getD k []).getD i noWd).col : Int))) := by
  obtain ⟨vs, h1, h2, h3⟩ := h
  rcases h2.2 with ⟨hv, hn⟩ | ⟨g, cp, cur, hv, hb, hh, hnc, hcm, hsz, htk⟩
  · refine ⟨none, 0, by rw [hv, hn], fun hne => absurd (List.eq_nil_of_length_eq_zero hn) hne⟩
  · refine ⟨_, cp, hv, fun _ => ⟨g, rfl, hnc, fun k hk hne => ?_⟩⟩
    obtain ⟨gr, cr, e, hc1, _, hc3⟩ := RowAt.cells (h3 k hk) hne
    refine ⟨gr, cr, ?_, hc1, hc3⟩
    subst hv
    rw [World.ownsRow.cellAt h2 k (by omega)]
    rw [← e]
    have : k < vs.length := by omega
    simp [List.getD, this]

theorem addr_ne' {b i j : Nat} (h : i ≠ j) : (⟨b, i, none⟩ : Addr) ≠ ⟨b, j, none⟩ := fun e => h (congrArg Addr.off e)

theorem txts_get (l : List Wd) (i : Nat) : (txts l).getD i [] = (l.getD i noWd).txt := by
  unfold txts
  by_cases h : i < l.length
  · rw [getD_lt _ _ _ (by simpa using h), getD_lt _ _ _ h]; simp
  · simp [List.getD, h, noWd]
theorem txts_snoc (l : List Wd) (i : Nat) (h : i < l.length) : txts (l.take (i + 1)) = txts (l.take i) ++ [(l.getD i noWd).txt] := by
  unfold txts
  rw [List.take_succ_eq_append_getElem h, getD_lt _ _ _ h, List.map_append]; rfl

def strs (ts : List (List UInt8)) : List Value := ts.map fun t => .string (strOf t)
theorem strs_get (ts : List (List UInt8)) (i : Nat) (h : i < ts.length) : (strs ts).getD i undef = .string (strOf (ts.getD i [])) := by
  unfold strs; rw [getD_lt _ _ _ (by simpa using h), getD_lt _ _ _ h]; simp

theorem ret_cfg {q : Pl × Int × Int × Int} {m : Nat} {v : Value} {x y z : Int} (h : q.1.most = m) (h1 : q.2.1 = x) (h2 : q.2.2.1 = y) (h3 : q.2.2.2 = z) :
    Ending.returned (.tuple #[plV m v, .int .i64 x, .agg #[.int .i64 y, .int .i64 z]]) = .returned (.tuple #[plV q.1.most v, .int .i64 q.2.1, .agg #[.int .i64 q.2.2.1, .int .i64 q.2.2.2]]) := by rw [h, h1, h2, h3]

theorem cFold_go {p : Pl} {ls : List (List Wd)} {k : Nat} (hk : k < ls.length) (h : (cOne p (txts (ls.getD k []))).2.1 = 0) : cFold p (ls.drop k) = cFold (cOne p (txts (ls.getD k []))).1 (ls.drop (k + 1)) := by
  rw [getD_lt _ _ _ hk] at h ⊢
  rw [List.drop_eq_getElem_cons hk, cFold, if_neg (fun hh => hh h)]
theorem cFold_bad {p : Pl} {ls : List (List Wd)} {k : Nat} (hk : k < ls.length) (h : (cOne p (txts (ls.getD k []))).2.1 ≠ 0) :
    cFold p (ls.drop k) = (Pl0, (cOne p (txts (ls.getD k []))).2.1, (((ls.getD k []).getD (cOne p (txts (ls.getD k []))).2.2.toNat noWd).ln : Int), (((ls.getD k []).getD (cOne p (txts (ls.getD k []))).2.2.toNat noWd).col : Int)) := by
  rw [getD_lt _ _ _ hk] at h ⊢
  rw [List.drop_eq_getElem_cons hk, cFold, if_pos h]; rfl

theorem cfg_split {l : List UInt8} (h : spE l ≠ 0) : cfg l = (Pl0, spE l, spLn l, spCol l) := by unfold cfg; rw [if_pos h]
theorem cfg_bad {l : List UInt8} (h : spE l = 0) (h2 : (cFold Pl0 (spLines l)).2.1 ≠ 0) : cfg l = (Pl0, (cFold Pl0 (spLines l)).2.1, (cFold Pl0 (spLines l)).2.2.1, (cFold Pl0 (spLines l)).2.2.2) := by
  unfold cfg cFin; rw [if_neg (fun hh => hh h), if_pos h2]
theorem cfg_30 {l : List UInt8} (h : spE l = 0) (h2 : (cFold Pl0 (spLines l)).2.1 = 0) (h3 : (cFold Pl0 (spLines l)).1.most = 0) : cfg l = (Pl0, 30, 0, 0) := by
  unfold cfg cFin; rw [if_neg (fun hh => hh h), if_neg (fun hh => hh h2), if_pos h3]
theorem cfg_31 {l : List UInt8} (h : spE l = 0) (h2 : (cFold Pl0 (spLines l)).2.1 = 0) (h3 : (cFold Pl0 (spLines l)).1.most ≠ 0) (h4 : hasP (cFold Pl0 (spLines l)).1.rules [] = false) : cfg l = (Pl0, 31, 0, 0) := by
  unfold cfg cFin; rw [if_neg (fun hh => hh h), if_neg (fun hh => hh h2), if_neg h3, h4]; rfl
theorem cfg_ok {l : List UInt8} (h : spE l = 0) (h2 : (cFold Pl0 (spLines l)).2.1 = 0) (h3 : (cFold Pl0 (spLines l)).1.most ≠ 0) (h4 : hasP (cFold Pl0 (spLines l)).1.rules [] = true) : cfg l = (⟨(cFold Pl0 (spLines l)).1.most, sortR (cFold Pl0 (spLines l)).1.rules⟩, 0, 0, 0) := by
  unfold cfg cFin; rw [if_neg (fun hh => hh h), if_neg (fun hh => hh h2), if_neg h3, if_pos h4]

theorem infoSt : (Tryz.prog.info? 9).map (fun i => (i.zero, i.size, i.bytes)) = some (some (.string ⟨#[]⟩), 1, 16) := by kernel_rfl

set_option maxRecDepth 100000 in
set_option maxHeartbeats 6400000 in
theorem rCfg (a : Option Addr) (cap : Nat) (l : List UInt8) (hl : l.length ≤ 900000) (hcap : l.length ≤ cap) (w : World) (hb : IsBytes w a l) :
    Calls Tryz.prog 15 #[.slice a l.length cap] w fun e w' => ∃ v, e = .returned (.tuple #[plV (cfg l).1.most v, .int .i64 (cfg l).2.1, .agg #[.int .i64 (cfg l).2.2.1, .int .i64 (cfg l).2.2.2]]) ∧ RulesAt w' v (cfg l).1.rules ∧ Ext w w' := by
  obtain ⟨i0, hi, hz0, hz1, hz2⟩ := info_parts infoSt
  have hS := fun W (hx : Ext w W) => rSplitA a cap l hl hcap W (hb.ext hx)
  have hLp := spLines_props l
  have hLl : ∀ k, ((spLines l).getD k []).length ≤ l.length + 1 := fun k => by
    by_cases hk : k < (spLines l).length
    · rw [getD_lt _ _ _ hk]; exact (hLp.2 _ (List.getElem_mem hk)).2.2.1
    · simp [List.getD, hk]
  have hLn : ∀ k, k < (spLines l).length → (spLines l).getD k [] ≠ [] := fun k hk => by rw [getD_lt _ _ _ hk]; exact (hLp.2 _ (List.getElem_mem hk)).1
  have hcs := Lib.hid (And.intro (cfg_split (l := l)) (And.intro (cfg_bad (l := l)) (And.intro (cfg_30 (l := l)) (And.intro (cfg_31 (l := l)) (cfg_ok (l := l))))))
  have hLx : ∀ k i, (((spLines l).getD k []).getD i noWd).txt.length ≤ 1000000 := fun k i => by
    by_cases hk : k < (spLines l).length
    · by_cases hi : i < ((spLines l).getD k []).length
      · rw [getD_lt _ _ _ hi]
        have := spLines_in l _ (by rw [getD_lt _ _ _ hk]; exact List.getElem_mem hk) _ (List.getElem_mem hi)
        omega
      · generalize (spLines l).getD k [] = LL at *
        have e : LL.getD i noWd = noWd := by simp only [List.getD]; rw [List.getElem?_eq_none (Nat.le_of_not_lt hi)]; rfl
        rw [e]; simp [noWd]
    · have e : (spLines l).getD k [] = [] := by simp [List.getD, List.getElem?_eq_none (Nat.le_of_not_lt hk)]
      rw [e]; simp [noWd]
  have hn0 : (spLines l).length ≤ 900001 := by have := hLp.1; omega
  clear hLp hb
  generalize cfg l = CF at *
  generalize spE l = SE at *
  generalize spLn l = SL at *
  generalize spCol l = SC at *
  generalize spLines l = LS at *
  go_enter Tryz.func15, Tryz.ntmps15
  go_wp2_with fail
  refine (hS _ ?hx).mono ?_
  case hx => repeat (first | exact Ext.refl _ | assumption | apply Ext.drew | apply Ext.alloc | (refine Ext.setCell ?_ (by simp <;> omega) _) | refine Ext.trans ?_ (by assumption))
  rintro e w1 ⟨v, rfl, hL, hx⟩
  have hx1 : Ext w w1 := hx.past.past
  have a0 : w1.cell? ⟨w.heap.size, 0, none⟩ = some (.int .i64 0) := hx.reads (by go_simp)
  have a1 : w1.cell? ⟨w.heap.size, 1, none⟩ = some (.slice none 0 0) := hx.reads (by go_simp)
  have b0 : w1.cell? ⟨w.heap.size + 1, 0, none⟩ = some (.int .i64 0) := hx.reads (by go_simp)
  have b1 : w1.cell? ⟨w.heap.size + 1, 1, none⟩ = some (.int .i64 0) := hx.reads (by go_simp)
  have f0 : w1.frozen? ⟨w.heap.size, 0, none⟩ = false := hx.free (v := .int .i64 0) (by go_simp) (by go_simp)
  have f1 : w1.frozen? ⟨w.heap.size, 1, none⟩ = false := hx.free (v := .slice none 0 0) (by go_simp) (by go_simp)
  have g0 : w1.frozen? ⟨w.heap.size + 1, 0, none⟩ = false := hx.free (v := .int .i64 0) (by go_simp) (by go_simp)
  have g1 : w1.frozen? ⟨w.heap.size + 1, 1, none⟩ = false := hx.free (v := .int .i64 0) (by go_simp) (by go_simp)
  have hs1 : w.heap.size + 1 < w1.heap.size := World.block_lt_of_cell? w1 _ b0
  have hs0 : w.heap.size < w1.heap.size := by omega
  clear hx hS
  obtain ⟨la, lc, rfl, hLf⟩ := hL.form
  by_cases hse : SE = 0
  · subst hse
    obtain ⟨-, hcs⟩ := hcs.out
    have hcs := Lib.hid hcs
    go_wp2
    obtain ⟨W, hW⟩ : ∃ W, (w1.alloc (.cells #[.int .i64 SL, .int .i64 SC] 57)).alloc (.cells #[.int .i64 0, .slice none 0 0] 30) = W := ⟨_, rfl⟩
    have p0 : W.cell? ⟨w1.heap.size + 1, 0, none⟩ = some (.int .i64 0) := by subst hW; go_simp
    have p1 : W.cell? ⟨w1.heap.size + 1, 1, none⟩ = some (.slice none 0 0) := by subst hW; go_simp
    have q0 : W.frozen? ⟨w1.heap.size + 1, 0, none⟩ = false := by subst hW; go_simp
    have q1 : W.frozen? ⟨w1.heap.size + 1, 1, none⟩ = false := by subst hW; go_simp
    have xW : Ext w1 W := by subst hW; repeat (first | exact Ext.refl _ | assumption | apply Ext.drew | apply Ext.alloc | (refine Ext.setCell ?_ (by simp <;> omega) _) | refine Ext.trans ?_ (by assumption))
    have hLW := (hL.ext xW)
    rw [hW]
    clear hW
    obtain ⟨B8, hB8⟩ : ∃ B, w1.heap.size + 1 = B := ⟨_, rfl⟩
    rw [hB8] at p0 p1 q0 q1 ⊢
    have hs8 : w.heap.size + 1 < B8 := by omega
    have hLB : B8 < W.heap.size := World.block_lt_of_cell? W _ p0
    have hLine : Hid (∀ k, k < LS.length → ∃ g gr cr, la = some ⟨g, 0, none⟩ ∧ LS.length ≤ lc ∧ (LS.getD k []).length ≤ cr ∧ ∀ wx, But (fun x => x = B8) W wx → wx.cell? ⟨g, k, none⟩ = some (.slice (some ⟨gr, 0, none⟩) (LS.getD k []).length cr) ∧
        ∀ i, i < (LS.getD k []).length → wx.cell? ⟨gr, i * 3, none⟩ = some (.string (strOf ((LS.getD k []).getD i noWd).txt)) ∧ wx.cell? ⟨gr, i * 3 + 1, none⟩ = some (.int .i64 (((LS.getD k []).getD i noWd).ln : Int)) ∧ wx.cell? ⟨gr, i * 3 + 2, none⟩ = some (.int .i64 (((LS.getD k []).getD i noWd).col : Int))) := Lib.hid (by
      intro k hk
      obtain ⟨g, e, hlc, hf⟩ := hLf (fun e => by rw [e] at hk; simp at hk)
      obtain ⟨gr, cr, h1, h2, h3⟩ := hf k hk (hLn k hk)
      refine ⟨g, gr, cr, e, hlc, h2, fun wx hB => ?_⟩
      have low : ∀ {ad : Addr} {u : Value}, w1.cell? ad = some u → wx.cell? ad = some u := fun {ad u} h => by
        have := World.block_lt_of_cell? w1 _ h
        exact hB.cell (xW.reads h) (by omega)
      exact ⟨low h1, fun i hi => ⟨low (h3 i hi).1, low (h3 i hi).2.1, low (h3 i hi).2.2⟩⟩)
    have hxW := hx1.trans xW
    have a0 := xW.reads a0
    have f0 := xW.free (by assumption : w1.cell? ⟨w.heap.size, 0, none⟩ = some (.int .i64 0)) f0
    clear hLW hL hLf
    go_loopw [9, 10, 11, 12, 13, 14] (fun i _ _ _ _ _ wr => ∃ (k : Nat) (p : Pl) (pv : Value), k ≤ LS.length ∧ i = .int .i64 k ∧ Hid (cFold Pl0 LS = cFold p (LS.drop k)) ∧ Hid (okP p) ∧ Hid (RulesAt wr pv p.rules) ∧ wr.cell? ⟨B8, 0, none⟩ = some (.int .i64 p.most) ∧ wr.cell? ⟨B8, 1, none⟩ = some pv ∧ wr.frozen? ⟨B8, 0, none⟩ = false ∧ wr.frozen? ⟨B8, 1, none⟩ = false ∧ Hid (But (fun x => x = B8) W wr)) (fun i _ _ _ _ _ _ => LS.length - (intOf i).toNat)
    case atStart => exact ⟨0, Pl0, .slice none 0 0, Nat.zero_le _, rfl, Lib.hid rfl, Lib.hid okP_0, Lib.hid (RulesAt.nil _), p0, p1, q0, q1, Lib.hid (But.refl _ _)⟩
    case round =>
      obtain ⟨k, p, pv, hk, rfl, hF, hok, hRA, c0, c1, e0, e1, hB⟩ := hrel
      obtain ⟨pa, pc, rfl, hpf⟩ := hRA.out.form
      by_cases hlt : k < LS.length
      · obtain ⟨g, gr, cr, rfl, hlc, hcr, hcell⟩ := hLine.out k hlt
        have hm := hLl k
        have hmpos : 0 < (LS.getD k []).length := Nat.pos_of_ne_zero fun e => hLn k hlt (List.eq_nil_of_length_eq_zero e)
        have hgo := cFold_go (p := p) hlt
        have hbad := cFold_bad (p := p) hlt
        have hat := cOne_at p (txts (LS.getD k [])) (by unfold txts; simpa using hmpos)
        have hok2 := cOne_ok (ts := txts (LS.getD k [])) hok.out
        have hHc := Lib.hid (And.intro hgo (And.intro hbad (And.intro hat hok2)))
        clear hgo hbad hat hok2 hpf
        have hLxk := hLx k
        generalize hLk : LS.getD k [] = Lk at *
        clear hLk
        have hcellH := Lib.hid hcell
        have cg := (hcell _ hB.out).1
        clear hcell
        go_wp2
        go_loopw [10, 11] (fun wv i wq => ∃ j : Nat, j ≤ Lk.length ∧ i = .int .i64 j ∧ Hid (wq.ownsRow wr.heap.size 9 1 wv j (strs (txts (Lk.take j)))) ∧ Ext wr wq) (fun _ i _ => Lk.length - (intOf i).toNat)
        case atStart => exact ⟨0, Nat.zero_le _, rfl, Lib.hid (World.ownsRow_nil _ _ _ _), Ext.refl _⟩
        case round =>
          obtain ⟨j, hj, rfl, hO, hxq⟩ := hrel
          obtain ⟨oa, oc, rfl⟩ := own_slice hO.out
          have cg := hxq.reads cg
          by_cases hjl : j < Lk.length
          · have ct := hxq.reads ((hcellH.out _ hB.out).2 j hjl).1
            have hown := hO.out
            have hsn : Hid (strs (txts (Lk.take (j + 1))) = strs (txts (Lk.take j)) ++ [.string (strOf (Lk.getD j noWd).txt)]) := Lib.hid (by rw [txts_snoc _ _ hjl]; unfold strs; simp)
            generalize strOf (Lk.getD j noWd).txt = ST at *
            have hsz := hxq.size
            go_wp2_with (at_builtin; refine wpList_append_own _ rfl _ _ 51 rfl _ 9 i0 (.string ⟨#[]⟩) 1 16 Tryz.underlying51 hi hz0 hz1 hz2 rfl (by decide) _ _ _ rfl (hown.alloc _) ⟨wr.heap.size, 0, none⟩ 1 1 [.string ST] rfl rfl ?c1 ?c2 ?c3 ?c4 ?c5 ?_)
            case c1 => exact cell_one_new _ (.string ST) 9
            case c2 => simp [Value.oneCell']
            case c3 => unfold maxLen; omega
            try (case c4 => omega)
            case c5 => simp; omega
            intro v' w3 hown3 hgrow3 _
            have hext3 := ext_grown hxq hown hgrow3
            have hO3 : Hid (w3.ownsRow _ 9 1 v' (j + 1) (strs (txts (Lk.take (j + 1))))) := Lib.hid (by rw [hsn.out]; exact hown3)
            clear hown hown3 hgrow3 hO
            go_wp2
            go_roundw
            case rel => exact ⟨j + 1, by omega, by go_num, hO3, hext3⟩
            case measure => (simp [intOf]) <;> omega
          · obtain rfl : j = Lk.length := by omega
            have hO := hO.out
            rw [List.take_length] at hO
            obtain ⟨gw, cw, ev, hn1, hn2, hcs2⟩ := own_cells hO hmpos
            injection ev with ev1 ev2 ev3
            rw [← ev3] at hn1 hn2
            clear ev3
            subst ev1
            have htl : (txts Lk).length = Lk.length := by unfold txts; simp
            have hSt : StrsAt wr gw (txts Lk) := fun i hi => by rw [hcs2 i (by omega)]; rw [← strs_get _ _ hi]
            have hOne := rOne p (.slice pa p.rules.length pc) (txts Lk) gw oc (by omega) (by omega) (fun i => by rw [txts_get]; exact hLxk i) hok.out wr hSt (hRA.out.ext hxq)
            have c0 := hxq.reads c0
            have e0 := hxq.free (by assumption) e0
            have c1' := hxq.reads c1
            have e1 := hxq.free c1 e1
            rw [htl] at hOne
            unfold plV at hOne
            clear hO hcs2 hSt hRA
            generalize txts Lk = TS at *
            go_wp2_with fail
            refine hOne.mono ?_
            rintro e w5 ⟨pv', rfl, hRA5, hx5⟩
            clear hOne
            obtain ⟨pa', pc', rfl, -⟩ := hRA5.form
            have c0 := hx5.reads c0
            have e0 := hx5.free (by assumption) e0
            have e1 := hx5.free c1' e1
            have c1 := hx5.reads c1'
            have hne5 := hRA5.ne c0
            have hRAH := Lib.hid hRA5
            have hB5 : Hid (But (fun x => x = B8) W w5) := Lib.hid (hB.out.trans (But.of_ext (hxq.trans hx5)))
            have hs5 : B8 < w5.heap.size := World.block_lt_of_cell? w5 _ c0
            clear hRA5 hB cg hm hmpos hLxk hxq hx5
            generalize cOne p TS = Q at *
            obtain ⟨⟨QM, QR⟩, QE, QA⟩ := Q
            simp only at hRAH hHc hne5 ⊢
            generalize hQn : QR.length = N at *
            by_cases hE : QE = 0
            · subst hE
              have hF2 := Lib.hid (hF.out.trans (hHc.out.1 rfl))
              have hok3 := Lib.hid hHc.out.2.2.2
              have hEnd : Hid (∀ o, RulesAt (((w5.setCell ⟨B8, 0, none⟩ (.int .i64 QM)).setCell ⟨B8, 1, none⟩ (.slice pa' N pc')).alloc o) (.slice pa' N pc') QR ∧
                  (((w5.setCell ⟨B8, 0, none⟩ (.int .i64 QM)).setCell ⟨B8, 1, none⟩ (.slice pa' N pc')).alloc o).cell? ⟨B8, 0, none⟩ = some (.int .i64 QM) ∧
                  (((w5.setCell ⟨B8, 0, none⟩ (.int .i64 QM)).setCell ⟨B8, 1, none⟩ (.slice pa' N pc')).alloc o).cell? ⟨B8, 1, none⟩ = some (.slice pa' N pc') ∧
                  (((w5.setCell ⟨B8, 0, none⟩ (.int .i64 QM)).setCell ⟨B8, 1, none⟩ (.slice pa' N pc')).alloc o).frozen? ⟨B8, 0, none⟩ = false ∧
                  (((w5.setCell ⟨B8, 0, none⟩ (.int .i64 QM)).setCell ⟨B8, 1, none⟩ (.slice pa' N pc')).alloc o).frozen? ⟨B8, 1, none⟩ = false ∧
                  But (fun x => x = B8) W (((w5.setCell ⟨B8, 0, none⟩ (.int .i64 QM)).setCell ⟨B8, 1, none⟩ (.slice pa' N pc')).alloc o)) := Lib.hid (fun o => by
                have b1 : But (fun x => x = B8) w5 ((w5.setCell ⟨B8, 0, none⟩ (.int .i64 QM)).setCell ⟨B8, 1, none⟩ (.slice pa' N pc')) := ((But.refl (fun x => x = B8) w5).setCell (p := ⟨B8, 0, none⟩) rfl _).setCell (p := ⟨B8, 1, none⟩) rfl _
                have n01 : (⟨B8, 1, none⟩ : Addr) ≠ ⟨B8, 0, none⟩ := addr_ne' (by decide)
                have k1 : (w5.setCell ⟨B8, 0, none⟩ (.int .i64 QM)).cell? ⟨B8, 1, none⟩ = some (.slice pa p.rules.length pc) := by rw [World.cell?_setCell_other (h := Ne.symm n01)]; exact c1
                have k0 : ((w5.setCell ⟨B8, 0, none⟩ (.int .i64 QM)).setCell ⟨B8, 1, none⟩ (.slice pa' N pc')).cell? ⟨B8, 0, none⟩ = some (.int .i64 QM) := by rw [World.cell?_setCell_other (h := n01)]; exact World.cell?_setCell_same _ _ _ c0
                have k2 : ((w5.setCell ⟨B8, 0, none⟩ (.int .i64 QM)).setCell ⟨B8, 1, none⟩ (.slice pa' N pc')).cell? ⟨B8, 1, none⟩ = some (.slice pa' N pc') := World.cell?_setCell_same _ _ _ k1
                have g0' : ((w5.setCell ⟨B8, 0, none⟩ (.int .i64 QM)).setCell ⟨B8, 1, none⟩ (.slice pa' N pc')).frozen? ⟨B8, 0, none⟩ = false := by simpa using e0
                have g1' : ((w5.setCell ⟨B8, 0, none⟩ (.int .i64 QM)).setCell ⟨B8, 1, none⟩ (.slice pa' N pc')).frozen? ⟨B8, 1, none⟩ = false := by simpa using e1
                have xa : Ext ((w5.setCell ⟨B8, 0, none⟩ (.int .i64 QM)).setCell ⟨B8, 1, none⟩ (.slice pa' N pc')) (((w5.setCell ⟨B8, 0, none⟩ (.int .i64 QM)).setCell ⟨B8, 1, none⟩ (.slice pa' N pc')).alloc o) := (Ext.refl _).alloc o
                exact ⟨⟨hRAH.out.1, owns_ext (b1.owns hRAH.out.2 hne5) xa⟩, xa.reads k0, xa.reads k2, xa.free k0 g0', xa.free k2 g1', hB5.out.trans (b1.alloc o)⟩)
              clear hHc hF hok hLine hRAH hB5 hne5 hcellH
              go_wp2
              go_roundw
              case rel =>
                obtain ⟨r1, r2, r3, r4, r5, r6⟩ := hEnd.out (.cells #[.int .i64 QM, .slice pa' N pc'] 30)
                exact ⟨k + 1, ⟨QM, QR⟩, _, by omega, by go_num, hF2, hok3, Lib.hid r1, r2, r3, r4, r5, Lib.hid r6⟩
              case measure => (simp [intOf]) <;> omega
            · have hF2 := Lib.hid (hF.out.trans (hHc.out.2.1 hE))
              have hat := hHc.out.2.2.1 hE
              have hE' : (QE != 0) = true := by simp [hE]
              obtain ⟨q, hq⟩ : ∃ q : Nat, QA = q := ⟨QA.toNat, (Int.toNat_of_nonneg hat.1).symm⟩
              subst hq
              have hql : q < Lk.length := by have := hat.2; rw [Int.toNat_natCast] at this; omega
              have hR := Lib.hid (hcs.out.1 True.intro (by rw [hF2.out]; exact hE))
              rw [hF2.out, Int.toNat_natCast] at hR
              have nH : ¬ w.heap.size = B8 := by omega
              have nH1 : ¬ w.heap.size + 1 = B8 := by omega
              have A0 := hB5.out.cell a0 nH
              have A1 := hB5.out.cell (xW.reads a1) nH
              have D0 := hB5.out.cell (xW.reads b0) nH1
              have D1 := hB5.out.cell (xW.reads b1) nH1
              have F0 := hB5.out.free a0 nH f0
              have F1 := hB5.out.free (xW.reads a1) nH (xW.free a1 f1)
              have G0 := hB5.out.free (xW.reads b0) nH1 (xW.free b0 g0)
              have G1 := hB5.out.free (xW.reads b1) nH1 (xW.free b1 g1)
              have hx5' := hB5.out.ext hxW (by rintro x rfl; omega)
              obtain ⟨cg5, hc5⟩ := hcellH.out w5 hB5.out
              obtain ⟨-, cl5, cc5⟩ := hc5 q hql
              have ct5 := (hc5 0 (by omega)).1
              obtain ⟨g', gr', cr', eg, _, _, hz⟩ := hLine.out 0 (by omega)
              have cz5 := (hz w5 hB5.out).1
              injection eg with eg
              injection eg with eg
              subst eg
              have m1 : g ≠ w.heap.size := fun h => by rw [h, A0] at cz5; cases cz5
              have m2 : g ≠ w.heap.size + 1 := fun h => by rw [h, D0] at cz5; cases cz5
              have m3 : gr ≠ w.heap.size := fun h => by rw [h, show (0 : Nat) * 3 = 0 from rfl, A0] at ct5; cases ct5
              have m4 : gr ≠ w.heap.size + 1 := fun h => by rw [h, show (0 : Nat) * 3 = 0 from rfl, D0] at ct5; cases ct5
              clear hHc hF hok hLine hRAH hB5 hne5 hcellH hc5 hz cz5 ct5 hat hF2 hcs
              generalize ((Lk.getD q noWd).ln : Int) = EL at *
              generalize ((Lk.getD q noWd).col : Int) = EC at *
              generalize hLkn : Lk.length = LkN at *
              have r1 : ∀ wx, But (fun x => x = w.heap.size ∨ x = w.heap.size + 1) w5 wx → wx.cell? ⟨g, k, none⟩ = some (.slice (some ⟨gr, 0, none⟩) LkN cr) := fun wx hz => hz.cell cg5 (fun h => by rcases h with h | h; exact m1 h; exact m2 h)
              have r2 : ∀ wx, But (fun x => x = w.heap.size ∨ x = w.heap.size + 1) w5 wx → wx.cell? ⟨gr, q * 3 + 1, none⟩ = some (.int .i64 EL) := fun wx hz => hz.cell cl5 (fun h => by rcases h with h | h; exact m3 h; exact m4 h)
              have r3 : ∀ wx, But (fun x => x = w.heap.size ∨ x = w.heap.size + 1) w5 wx → wx.cell? ⟨gr, q * 3 + 2, none⟩ = some (.int .i64 EC) := fun wx hz => hz.cell cc5 (fun h => by rcases h with h | h; exact m3 h; exact m4 h)
              clear cg5 cl5 cc5
              have hs50 : w.heap.size < w5.heap.size := World.block_lt_of_cell? w5 _ A0
              have hs51 : w.heap.size + 1 < w5.heap.size := World.block_lt_of_cell? w5 _ D0
              go_wp2
              go_region_held3 (But (fun x => x = w.heap.size ∨ x = w.heap.size + 1) w5)
                (repeat (first | exact But.refl _ _ | assumption | apply But.drew | apply But.alloc | (refine But.setCell ?_ (by simp) _)))
                (fail)
              all_goals
                go_wp2
                refine bodyPost_ret (v := .tuple #[plV 0 (.slice none 0 0), .int .i64 QE, .agg #[.int .i64 EL, .int .i64 EC]]) (by simp [results, Tryz.results15, go_sem, plV, A0, A1, D0, D1, hs50, hs51]) rfl ⟨.slice none 0 0, ret_cfg (by rw [hR.out]; rfl) (by rw [hR.out]) (by rw [hR.out]) (by rw [hR.out]), ?_, by repeat (first | exact Ext.refl _ | assumption | apply Ext.drew | apply Ext.alloc | (refine Ext.setCell ?_ (by simp <;> omega) _) | refine Ext.trans ?_ (by assumption))⟩
                rw [hR.out]; exact RulesAt.nil _
      · obtain rfl : k = LS.length := by omega
        have hFF : cFold Pl0 LS = (p, 0, 0, 0) := by have := hF.out; rw [List.drop_length] at this; exact this
        rw [hFF] at hcs
        have hcs := hcs.out.2
        simp only at hcs
        have nH : ¬ w.heap.size = B8 := by omega
        have nH1 : ¬ w.heap.size + 1 = B8 := by omega
        have A0 := hB.out.cell a0 nH
        have A1 := hB.out.cell (xW.reads a1) nH
        have D0 := hB.out.cell (xW.reads b0) nH1
        have D1 := hB.out.cell (xW.reads b1) nH1
        have F0 := hB.out.free a0 nH f0
        have F1 := hB.out.free (xW.reads a1) nH (xW.free a1 f1)
        have G0 := hB.out.free (xW.reads b0) nH1 (xW.free b0 g0)
        have G1 := hB.out.free (xW.reads b1) nH1 (xW.free b1 g1)
        have hxr := hB.out.ext hxW (by rintro x rfl; omega)
        have hFi := rFind p.rules _ [] (by have := hok.out.2.1; omega) wr hRA.out
        have hOr := rOrder p.most _ p.rules hok.out.2.1 hok.out.2.2.1 wr hRA.out
        clear hF hFF hLine hB hRA hok a0 a1 b0 b1 f0 f1 g0 g1 hLl hLn hLx hpf p0 p1 q0 q1
        obtain ⟨PM, PR⟩ := p
        simp only at hcs hFi hOr c0 c1 ⊢
        unfold plV at hOr
        generalize hRn : PR.length = N at *
        by_cases hm0 : PM = 0
        · subst hm0
          have hR := Lib.hid (hcs.1 True.intro True.intro rfl)
          clear hcs hFi hOr
          go_wp2
          refine bodyPost_ret (v := .tuple #[plV 0 (.slice none 0 0), .int .i64 30, .agg #[.int .i64 0, .int .i64 0]]) (by simp [results, Tryz.results15, go_sem, plV, A0, A1, D0, D1]) rfl ⟨(.slice none 0 0), ret_cfg (by rw [hR.out]; rfl) (by rw [hR.out]) (by rw [hR.out]) (by rw [hR.out]), ?_, by repeat (first | exact Ext.refl _ | assumption | apply Ext.drew | apply Ext.alloc | (refine Ext.setCell ?_ (by simp <;> omega) _) | refine Ext.trans ?_ (by assumption))⟩
          rw [hR.out]; exact RulesAt.nil _
        · obtain ⟨PS, ePS⟩ : ∃ PS, strOf [] = PS := ⟨_, rfl⟩
          have hm0' : ((PM : Int) == 0) = false := beq_eq_false_iff_ne.2 (by omega)
          rw [ePS] at hFi
          have ePS' : PS = ⟨#[]⟩ := ePS.symm
          subst ePS'
          cases hh : hasP PR []
          · have hR := Lib.hid (hcs.2.1 True.intro True.intro hm0 hh)
            rw [hh] at hFi
            clear hcs hOr hh ePS
            go_wp2_with fail
            refine hFi.mono ?_
            rintro e w5 ⟨r0, rfl, hr0, rfl⟩
            have hr0 : r0 < 0 := Int.not_le.1 (fun h => by have := hr0.1 h; simp at this)
            clear hFi
            go_wp2
            refine bodyPost_ret (v := .tuple #[plV 0 (.slice none 0 0), .int .i64 31, .agg #[.int .i64 0, .int .i64 0]]) (by simp [results, Tryz.results15, go_sem, plV, A0, A1, D0, D1]) rfl ⟨(.slice none 0 0), ret_cfg (by rw [hR.out]; rfl) (by rw [hR.out]) (by rw [hR.out]) (by rw [hR.out]), ?_, by repeat (first | exact Ext.refl _ | assumption | apply Ext.drew | apply Ext.alloc | (refine Ext.setCell ?_ (by simp <;> omega) _) | refine Ext.trans ?_ (by assumption))⟩
            rw [hR.out]; exact RulesAt.nil _
          · have hR := Lib.hid (hcs.2.2 True.intro True.intro hm0 hh)
            rw [hh] at hFi
            clear hcs hh ePS
            go_wp2_with fail
            refine hFi.mono ?_
            rintro e w5 ⟨r0, rfl, hr0, rfl⟩
            have hr0 : ¬ r0 < 0 := Int.not_lt.2 (hr0.2 (by simp))
            clear hFi
            go_wp2_with fail
            refine hOr.mono ?_
            rintro e w6 ⟨v', rfl, hR6, hx6⟩
            clear hOr
            obtain ⟨va', vc', rfl, -⟩ := hR6.form
            have n0 := hR6.ne (hx6.reads A0)
            have n1 := hR6.ne (hx6.reads D0)
            have F0 := hx6.free A0 F0
            have F1 := hx6.free A1 F1
            have G0 := hx6.free D0 G0
            have G1 := hx6.free D1 G1
            have A0 := hx6.reads A0
            have A1 := hx6.reads A1
            have D0 := hx6.reads D0
            have D1 := hx6.reads D1
            have hx6' := hxr.trans hx6
            have hR6H := Lib.hid hR6
            clear hR6 hx6 hxr c0 c1
            generalize hSn : (sortR PR).length = N2 at *
            go_wp2
            refine bodyPost_ret (v := .tuple #[plV PM (.slice va' N2 vc'), .int .i64 0, .agg #[.int .i64 0, .int .i64 0]]) (by simp [results, Tryz.results15, go_sem, plV, A0, A1, D0, D1]) rfl ⟨.slice va' N2 vc', ret_cfg (by rw [hR.out]) (by rw [hR.out]) (by rw [hR.out]) (by rw [hR.out]), ?_, by repeat (first | exact Ext.refl _ | assumption | apply Ext.drew | apply Ext.alloc | (refine Ext.setCell ?_ (by simp <;> omega) _) | refine Ext.trans ?_ (by assumption))⟩
            rw [hR.out]
            have hBB : But (fun x => x = w.heap.size ∨ x = w.heap.size + 1) w6 ((((w6.setCell ⟨w.heap.size, 0, none⟩ (.int .i64 PM)).setCell ⟨w.heap.size, 1, none⟩ (.slice va' N2 vc')).setCell ⟨w.heap.size + 1, 0, none⟩ (.int .i64 0)).setCell ⟨w.heap.size + 1, 1, none⟩ (.int .i64 0)) :=
              ((((But.refl (fun x => x = w.heap.size ∨ x = w.heap.size + 1) w6).setCell (.inl rfl) _).setCell (.inl rfl) _).setCell (.inr rfl) _).setCell (.inr rfl) _
            exact ⟨hR6H.out.1, by have := hBB.owns hR6H.out.2 (fun x hx h => by rcases h with h | h; exact n0 x hx h; exact n1 x hx h); exact this⟩
  · have hR := Lib.hid (hcs.out.1 hse)
    have hse' : (SE != 0) = true := by simp [hse]
    clear hcs hL hLf hLl hLn hLx
    generalize LS.length = LN at *
    go_wp2
    go_region
    all_goals
      go_wp2
      refine bodyPost_ret (v := .tuple #[plV 0 (.slice none 0 0), .int .i64 SE, .agg #[.int .i64 SL, .int .i64 SC]]) (by simp [results, Tryz.results15, go_sem, plV, a0, a1, b0, b1, hs0, hs1]) rfl ⟨.slice none 0 0, ?_, ?_, by repeat (first | exact Ext.refl _ | assumption | apply Ext.drew | apply Ext.alloc | (refine Ext.setCell ?_ (by simp <;> omega) _) | refine Ext.trans ?_ (by assumption))⟩
      · exact ret_cfg (by rw [hR.out]; rfl) (by rw [hR.out]) (by rw [hR.out]) (by rw [hR.out])
      · rw [hR.out]; exact RulesAt.nil _

end Go.Proofs.YtdgcgpapcbjfhaaGreatDoor
