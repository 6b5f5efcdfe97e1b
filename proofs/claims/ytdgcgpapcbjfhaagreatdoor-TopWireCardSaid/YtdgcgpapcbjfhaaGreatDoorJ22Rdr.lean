/- A text of rules, by the program: giving up; the line of the size. -/
import Derived.Test.YtdgcgpapcbjfhaaGreatDoorJ19SrtF
import Derived.Test.YtdgcgpapcbjfhaaGreatDoorJ16CfgW
import Derived.Lib.LazyBuf
import Derived.Test.YtdgcgpapcbjfhaaGreatDoorJ21RuleW
import Derived.Test.YtdgcgpapcbjfhaaGreatDoorJ20RuleM
import Derived.StillTailTactics
set_option linter.unusedVariables false
set_option linter.unusedSimpArgs false

/- Rules in order, by the program. -/
namespace Go.Proofs.YtdgcgpapcbjfhaaGreatDoor
open Go.RowKit

theorem rlCells_news {w : World} {g cp n : Nat} {rs : List Rl} (h : RulesAt w (.slice (some ⟨g, 0, none⟩) n cp) rs) : ∀ j u, (rlCells rs)[j]? = some u → w.cell? ((⟨g, 0, none⟩ : Addr).add j) = some u := by
  have := h.heads rs.length
  rwa [List.take_length] at this

set_option maxRecDepth 20000 in
set_option maxHeartbeats 1000000 in
theorem pCloneR (v : Value) (rs : List Rl) (hne : rs ≠ []) (hn : rs.length ≤ 1000) (w : World) (hv : RulesAt w v rs) :
    Calls Tryz.prog 59 #[v] w fun e w' => ∃ g cp, e = .returned (.slice (some ⟨g, 0, none⟩) rs.length cp) ∧ w.heap.size ≤ g ∧ InA w' g cp rs.length rs ∧ Ext w w' := by
  obtain ⟨i0, hi, hz0, hz1, hz2⟩ := info_parts infoRl
  obtain ⟨va, vc, rfl, hvf⟩ := hv.form
  obtain ⟨g, rfl, hgs, hgc, hgm⟩ := hvf hne
  have hq := fun (w : World) (a : Option Addr) (l c : Nat) => run_eql_slice_nil (P := Tryz.prog) w 28 47 a l c Tryz.underlying28
  have HN : Hid (∀ (w' : World), Ext w w' → ∀ j u, (rlCells rs)[j]? = some u → w'.cell? ((⟨g, 0, none⟩ : Addr).add j) = some u) := Lib.hid fun w' hx => rlCells_news (hv.ext hx)
  clear hv hvf
  go_enter Tryz.func59, Tryz.ntmps59
  go_wp2_with (at_builtin; refine wpList_append_own _ rfl _ _ 28 rfl w.heap.size 47 i0 (.agg #[.string ⟨#[]⟩, .int .u64 0, .int .u64 0, .int .u8 0]) 4 40 Tryz.underlying28 hi hz0 hz1 hz2 rfl (by decide) _ 0 [] rfl ?c0 ⟨g, 0, none⟩ rs.length vc (rlCells rs) rfl (rlCells_len rs) (HN.out _ ((Ext.refl w).alloc _)) (rlCells_one rs) (by unfold maxLen; omega) (by omega) (by simp) ?_)
  case c0 => exact World.ownsRow_made w #[] 0 (Nat.le_refl _) (by unfold maxLen; omega) rfl
  intro v' w1 hown hgrow _
  have hx0 : Ext w (w.alloc (.cells #[] 47)) := (Ext.refl w).alloc _
  have hx : Ext w w1 := Below.grown hx0 hgrow hx0.size fun k hk => by simp [Value.ownBlock] at hk; omega
  clear hx0
  have hl : 0 < rs.length := Nat.pos_of_ne_zero fun e => hne (List.eq_nil_of_length_eq_zero e)
  have hO : Hid (w1.ownsRow w.heap.size 47 4 v' rs.length (rlCells rs)) := Lib.hid (by simpa using hown)
  clear hown hgrow
  go_wp2
  go_ret
  rcases hO.out.2 with ⟨_, hn0⟩ | ⟨g', cp', cur, hv', hb, hh, hnc, hcm, hr1, hr2⟩
  · omega
  · subst hv'
    exact ⟨g', cp', rfl, hb, ⟨rfl, owns_mono hO.out (Nat.zero_le _)⟩, hx⟩

set_option maxRecDepth 100000 in
set_option maxHeartbeats 3200000 in
theorem pOrder (most : Nat) (v : Value) (rs : List Rl) (hne : rs ≠ []) (hn : rs.length ≤ 1000) (hd : rs.Pairwise (fun a b => a.pre ≠ b.pre)) (w : World) (hv : RulesAt w v rs) :
    Calls Tryz.prog 38 #[plV most v] w fun e w' => ∃ v', e = .returned (plV most v') ∧ RulesAt w' v' (sortR rs) ∧ Ext w w' := by
  have hCl := fun W (hx : Ext w W) => pCloneR v rs hne hn W (hv.ext hx)
  obtain ⟨va, vc, rfl, -⟩ := hv.form
  have hlen : 0 < rs.length := Nat.pos_of_ne_zero fun e => hne (List.eq_nil_of_length_eq_zero e)
  have hdH := Lib.hid hd
  clear hv hd
  unfold plV
  obtain ⟨n, hN⟩ : ∃ n, rs.length = n := ⟨_, rfl⟩
  rw [hN] at hCl hlen hn ⊢
  have hNH := Lib.hid hN
  clear hN
  go_enter Tryz.func38, Tryz.ntmps38
  go_wp2_with fail
  obtain ⟨W, hW⟩ : ∃ W, (w.alloc (.cells #[.int .i64 most, .slice va n vc] 30)).alloc (.cells #[.int .i64 0, .slice none 0 0] 30) = W := ⟨_, rfl⟩
  have a0 : W.cell? ⟨w.heap.size, 0, none⟩ = some (.int .i64 most) := by subst hW; go_simp
  have b0 : W.cell? ⟨w.heap.size + 1, 0, none⟩ = some (.int .i64 0) := by subst hW; go_simp
  have b1 : W.cell? ⟨w.heap.size + 1, 1, none⟩ = some (.slice none 0 0) := by subst hW; go_simp
  have a1 : W.cell? ⟨w.heap.size, 1, none⟩ = some (.slice va n vc) := by subst hW; go_simp
  have f0 : W.frozen? ⟨w.heap.size, 0, none⟩ = false := by subst hW; go_simp
  have f1 : W.frozen? ⟨w.heap.size, 1, none⟩ = false := by subst hW; go_simp
  have g0 : W.frozen? ⟨w.heap.size + 1, 0, none⟩ = false := by subst hW; go_simp
  have g1 : W.frozen? ⟨w.heap.size + 1, 1, none⟩ = false := by subst hW; go_simp
  have xW : Ext w W := by subst hW; repeat (first | exact Ext.refl _ | assumption | apply Ext.drew | apply Ext.alloc | (refine Ext.setCell ?_ (by simp <;> omega) _) | refine Ext.trans ?_ (by assumption))
  have hsz : w.heap.size + 2 = W.heap.size := by subst hW; simp
  rw [hW]
  clear hW
  refine (hCl W xW).mono ?_
  rintro e w1 ⟨g, cp, rfl, hg, hI, hx⟩
  have hH := Lib.hid hI
  have A0 := hx.reads a0
  have A1 := hx.reads a1
  have B0 := hx.reads b0
  have B1 := hx.reads b1
  have F0 := hx.free a0 f0
  have F1 := hx.free a1 f1
  have G0 := hx.free b0 g0
  have G1 := hx.free b1 g1
  have hs1 := hx.size
  have x1 := xW.trans hx
  clear hCl hI hx xW a0 a1 b0 b1 f0 f1 g0 g1
  go_wp2_with fail
  obtain ⟨W2, hW2⟩ : ∃ W2, w1.setCell ⟨w.heap.size, 1, none⟩ (.slice (some ⟨g, 0, none⟩) n cp) = W2 := ⟨_, rfl⟩
  have hgne : ¬ w.heap.size = g := by omega
  have hgne1 : ¬ w.heap.size + 1 = g := by omega
  have hb2 : But (fun x => x = w.heap.size) w1 W2 := by subst hW2; exact (But.refl (fun x => x = w.heap.size) w1).setCell rfl _
  have hx2 : Ext w W2 := by subst hW2; exact x1.setCell (by simp) _
  have hI2 : InA W2 g cp n rs := ⟨hH.out.1, hb2.owns hH.out.2 fun k hk e => by simp [Value.ownBlock] at hk; omega⟩
  have A0 : W2.cell? ⟨w.heap.size, 0, none⟩ = some (.int .i64 most) := by subst hW2; rw [World.cell?_setCell_other (h := addr_ne' (by decide))]; exact A0
  have A1 : W2.cell? ⟨w.heap.size, 1, none⟩ = some (.slice (some ⟨g, 0, none⟩) n cp) := by subst hW2; exact World.cell?_setCell_same _ _ _ A1
  have F1 : W2.frozen? ⟨w.heap.size, 1, none⟩ = false := by subst hW2; simpa using F1
  have g0 := hb2.free B0 (by simp) G0
  have g1 := hb2.free B1 (by simp) G1
  have b0 := hb2.cell B0 (by simp)
  have b1 := hb2.cell B1 (by simp)
  rw [hW2]
  clear hW2 B0 B1 G0 G1 F0 hH hb2 x1 hs1
  have hSo := pSortSt g cp n rs hn W2 hI2
  refine hSo.mono ?_
  rintro e w3 ⟨rfl, R, k1, k2, k3, k4⟩
  have hR : R = sortR rs := sort_one hdH.out k2.perm (by rw [k1.1]; exact k3)
  subst hR
  have A0 := k4.cell A0 hgne
  have A1 := k4.cell A1 hgne
  have g0 := k4.free b0 hgne1 g0
  have g1 := k4.free b1 hgne1 g1
  have b0 := k4.cell b0 hgne1
  have b1 := k4.cell b1 hgne1
  have hx3 := k4.ext hx2 (by rintro x rfl; omega)
  have k1H := Lib.hid k1
  have hs3 : w.heap.size + 1 < w3.heap.size := World.block_lt_of_cell? w3 _ b0
  clear hSo k1 k2 k3 k4 hI2 F1 hx2 hdH hNH
  go_wp2
  refine bodyPost_ret (v := plV most (.slice (some ⟨g, 0, none⟩) n cp)) (by simp [results, Tryz.results38, go_sem, plV, b0, b1]) rfl ⟨_, rfl, ?_, by repeat (first | exact Ext.refl _ | assumption | apply Ext.drew | apply Ext.alloc | (refine Ext.setCell ?_ (by simp <;> omega) _) | refine Ext.trans ?_ (by assumption))⟩
  have hb4 : But (fun x => x = w.heap.size + 1) w3 ((w3.setCell ⟨w.heap.size + 1, 0, none⟩ (.int .i64 most)).setCell ⟨w.heap.size + 1, 1, none⟩ (.slice (some ⟨g, 0, none⟩) n cp)) := ((But.refl (fun x => x = w.heap.size + 1) w3).setCell rfl _).setCell rfl _
  have hI4 : InA ((w3.setCell ⟨w.heap.size + 1, 0, none⟩ (.int .i64 most)).setCell ⟨w.heap.size + 1, 1, none⟩ (.slice (some ⟨g, 0, none⟩) n cp)) g cp n (sortR rs) := ⟨k1H.out.1, hb4.owns k1H.out.2 fun k hk e => by simp [Value.ownBlock] at hk; omega⟩
  exact hI4.at hlen

end Go.Proofs.YtdgcgpapcbjfhaaGreatDoor

/- A text of rules, by the program: giving up; the line of the size. -/
namespace Go.Proofs.YtdgcgpapcbjfhaaGreatDoor
open Go.RowKit

/-- what is given up with -/
def flt (e ln col : Int) : Value := .iface 89 (.agg #[.int .u16 e, .int .i64 ln, .int .i64 col])
def fltE (e ln col : Int) : Ending := .panicked [{ v := flt e ln col, recovered := false }]

theorem pMustY (s : ByteArray) (e ln col : Int) (w : World) :
    Calls Tryz.prog 57 #[.bool true, .int .u16 e, .agg #[.string s, .int .i64 ln, .int .i64 col]] w fun x w' => x = .returned (.tuple #[]) ∧ Ext w w' := by
  go_enter Tryz.func57, Tryz.ntmps57
  go_wp2
  go_end0
  exact ⟨rfl, by repeat (first | exact Ext.refl _ | assumption | apply Ext.drew | apply Ext.alloc | (refine Ext.setCell ?_ (by simp <;> omega) _) | refine Ext.trans ?_ (by assumption))⟩

theorem pMustN (s : ByteArray) (e ln col : Int) (w : World) :
    Calls Tryz.prog 57 #[.bool false, .int .u16 e, .agg #[.string s, .int .i64 ln, .int .i64 col]] w fun x w' => x = fltE e ln col ∧ Ext w w' := by
  go_enter Tryz.func57, Tryz.ntmps57
  go_wp2
  exact ⟨rfl, rfl, by repeat (first | exact Ext.refl _ | assumption | apply Ext.drew | apply Ext.alloc | (refine Ext.setCell ?_ (by simp <;> omega) _) | refine Ext.trans ?_ (by assumption))⟩

/-- a line's words in memory -/
def WdsAt (w : World) (gr : Nat) (l : List Wd) : Prop := ∀ i, i < l.length → w.cell? ⟨gr, i * 3, none⟩ = some (.string (strOf (l.getD i noWd).txt)) ∧ w.cell? ⟨gr, i * 3 + 1, none⟩ = some (.int .i64 ((l.getD i noWd).ln : Int)) ∧ w.cell? ⟨gr, i * 3 + 2, none⟩ = some (.int .i64 ((l.getD i noWd).col : Int))
theorem WdsAt.ext {w w' : World} {gr : Nat} {l : List Wd} (h : WdsAt w gr l) (hx : Ext w w') : WdsAt w' gr l := fun i hi => ⟨hx.reads (h i hi).1, hx.reads (h i hi).2.1, hx.reads (h i hi).2.2⟩
theorem WdsAt.rd {w : World} {gr : Nat} {l : List Wd} (h : WdsAt w gr l) {i : Nat} (hi : i < l.length) : (∀ w', Ext w w' → w'.cell? ⟨gr, i * 3, none⟩ = some (.string (strOf (l.getD i noWd).txt))) ∧ (∀ w', Ext w w' → w'.cell? ⟨gr, i * 3 + 1, none⟩ = some (.int .i64 ((l.getD i noWd).ln : Int))) ∧ ∀ w', Ext w w' → w'.cell? ⟨gr, i * 3 + 2, none⟩ = some (.int .i64 ((l.getD i noWd).col : Int)) :=
  ⟨fun w' hx => (h.ext hx i hi).1, fun w' hx => (h.ext hx i hi).2.1, fun w' hx => (h.ext hx i hi).2.2⟩

/-- how the line of the size ends -/
def SizeEnd (w : World) (B : Nat) (q : Pl × Int × Int) (l : List Wd) (e : Ending) (w' : World) : Prop :=
  (q.2.1 = 0 ∧ e = .returned (.tuple #[]) ∧ ∃ w1, Ext w w1 ∧ w' = w1.setCell ⟨B, 0, none⟩ (.int .i64 q.1.most)) ∨
  (q.2.1 ≠ 0 ∧ e = fltE q.2.1 ((l.getD q.2.2.toNat noWd).ln : Int) ((l.getD q.2.2.toNat noWd).col : Int) ∧ Ext w w')
theorem SizeEnd.no {w w' : World} {B : Nat} {q : Pl × Int × Int} {l : List Wd} {e : Int} (i : Nat) {ln col : Int} (h1 : q.2.1 = e) (h2 : q.2.2 = (i : Int)) (he : e ≠ 0) (hl : ((l.getD i noWd).ln : Int) = ln) (hc : ((l.getD i noWd).col : Int) = col) (hx : Ext w w') :
    SizeEnd w B q l (.panicked [{ v := .iface 89 (.agg #[.int .u16 e, .int .i64 ln, .int .i64 col]), recovered := false }]) w' :=
  .inr ⟨by rw [h1]; exact he, by rw [h1, h2, Int.toNat_natCast, hl, hc]; rfl, hx⟩

set_option maxRecDepth 100000 in
set_option maxHeartbeats 1600000 in
theorem pSize (p : Pl) (l : List Wd) (gr cr B : Nat) (hne : 0 < l.length) (hcr : l.length ≤ cr) (hl : ∀ i, (l.getD i noWd).txt.length ≤ 1000000) (hm : p.most ≤ 1000000) (h0 : (l.getD 0 noWd).txt = sSize) (w : World) (hc : WdsAt w gr l)
    (c0 : w.cell? ⟨B, 0, none⟩ = some (.int .i64 p.most)) (f0 : w.frozen? ⟨B, 0, none⟩ = false) :
    Calls Tryz.prog 35 #[.pointer (some ⟨B, 0, none⟩), .slice (some ⟨gr, 0, none⟩) l.length cr] w (SizeEnd w B (cOne p (txts l)) l) := by
  have hQ := cSize (p := p) (ts := txts l) (by rw [txts_get]; exact h0)
  have htl : (txts l).length = l.length := by unfold txts; simp
  rw [htl, txts_get] at hQ
  obtain ⟨r0, r1, r2⟩ := hc.rd hne
  rw [Nat.zero_mul] at r0 r1 r2
  have s0 : ∀ w', Ext w w' → w'.cell? ⟨B, 0, none⟩ = some (.int .i64 p.most) := fun w' hx => hx.reads c0
  by_cases h2 : l.length = 2
  · rw [if_neg (by omega)] at hQ
    obtain ⟨q0, q1, q2⟩ := hc.rd (i := 1) (by omega)
    rw [Nat.one_mul] at q0 q1 q2
    have hgs : gr < w.heap.size := World.block_lt_of_cell? w _ (r0 w (Ext.refl _))
    have hBs : B < w.heap.size := World.block_lt_of_cell? w _ c0
    have hMy := fun e => pMustY (strOf (l.getD 0 noWd).txt) e ((l.getD 0 noWd).ln : Int) ((l.getD 0 noWd).col : Int)
    have hNy := fun e => pMustY (strOf (l.getD 1 noWd).txt) e ((l.getD 1 noWd).ln : Int) ((l.getD 1 noWd).col : Int)
    by_cases hpm : 0 < p.most
    · rw [if_pos hpm] at hQ
      have hR : Hid (∀ w', Ext w w' → SizeEnd w B (cOne p (txts l)) l (.panicked [{ v := .iface 89 (.agg #[.int .u16 28, .int .i64 ((l.getD 0 noWd).ln : Int), .int .i64 ((l.getD 0 noWd).col : Int)]), recovered := false }]) w') := Lib.hid fun w' hx => SizeEnd.no 0 (by rw [hQ]) (by rw [hQ]; rfl) (by decide) rfl rfl hx
      generalize SizeEnd w B (cOne p (txts l)) l = SE at *
      have hM := pMustN (strOf (l.getD 0 noWd).txt) 28 ((l.getD 0 noWd).ln : Int) ((l.getD 0 noWd).col : Int)
      unfold fltE flt at hM
      have k0 := r0 w (Ext.refl _)
      have k1 := r1 w (Ext.refl _)
      have k2 := r2 w (Ext.refl _)
      clear hQ hc hl h0 htl q0 q1 q2 hNy
      rw [h2] at hcr ⊢
      generalize strOf (l.getD 0 noWd).txt = S at *
      generalize ((l.getD 0 noWd).ln : Int) = A at *
      generalize ((l.getD 0 noWd).col : Int) = C at *
      generalize p.most = M at *
      have hM' : ((M : Int) == 0) = false := beq_eq_false_iff_ne.2 (by omega)
      go_enter Tryz.func35, Tryz.ntmps35
      go_wp2_with fail
      refine (hMy 22 _).mono ?_
      rintro e w1 ⟨rfl, hx⟩
      clear hMy k0 k1 k2 c0
      go_wp2
      have k0 := r0 w1 hx
      have k1 := r1 w1 hx
      have k2 := r2 w1 hx
      have c0 := s0 w1 hx
      go_still_tail 9, (by kernel_rfl)
      go_wp2_with fail
      refine (hM _).mono ?_
      rintro e w9 ⟨rfl, hb⟩
      exact ⟨rfl, hR.out _ (hx.drew.trans hb)⟩
    · rw [if_neg hpm] at hQ
      have hM0 : p.most = 0 := by omega
      rw [hM0, show ((0 : Nat) : Int) = 0 from rfl] at c0 s0
      have hD := dParseP (strOf (l.getD 1 noWd).txt) (by rw [← bs_length, bs_strOf]; unfold maxLen; have := hl 1; omega)
      rw [bs_strOf] at hD
      obtain ⟨hv0, hv1⟩ := dV_U (l.getD 1 noWd).txt
      have hMn := fun e => pMustN (strOf (l.getD 1 noWd).txt) e ((l.getD 1 noWd).ln : Int) ((l.getD 1 noWd).col : Int)
      unfold fltE flt at hMn
      have k0 := r0 w (Ext.refl _)
      have k1 := r1 w (Ext.refl _)
      have k2 := r2 w (Ext.refl _)
      rw [h2] at hcr ⊢
      have hR1 : Hid (dE (l.getD 1 noWd).txt ≠ 0 → ∀ w', Ext w w' → SizeEnd w B (cOne p (txts l)) l (.panicked [{ v := .iface 89 (.agg #[.int .u16 (dE (l.getD 1 noWd).txt), .int .i64 ((l.getD 1 noWd).ln : Int), .int .i64 ((l.getD 1 noWd).col : Int)]), recovered := false }]) w') :=
        Lib.hid fun he w' hx => by
          rw [if_pos he] at hQ
          exact SizeEnd.no 1 (by rw [hQ]) (by rw [hQ]; rfl) he rfl rfl hx
      have hR2 : Hid (dE (l.getD 1 noWd).txt = 0 → (dV (l.getD 1 noWd).txt < 1 ∨ 1000000 < dV (l.getD 1 noWd).txt) → ∀ w', Ext w w' → SizeEnd w B (cOne p (txts l)) l (.panicked [{ v := .iface 89 (.agg #[.int .u16 29, .int .i64 ((l.getD 1 noWd).ln : Int), .int .i64 ((l.getD 1 noWd).col : Int)]), recovered := false }]) w') :=
        Lib.hid fun he hv w' hx => by
          rw [if_neg (fun h => h he), if_pos hv] at hQ
          exact SizeEnd.no 1 (by rw [hQ]) (by rw [hQ]; rfl) (by decide) rfl rfl hx
      have hR3 : Hid (dE (l.getD 1 noWd).txt = 0 → ¬ (dV (l.getD 1 noWd).txt < 1 ∨ 1000000 < dV (l.getD 1 noWd).txt) → ∀ w1, Ext w w1 → SizeEnd w B (cOne p (txts l)) l (.returned (.tuple #[])) (w1.setCell ⟨B, 0, none⟩ (.int .i64 (dV (l.getD 1 noWd).txt)))) :=
        Lib.hid fun he hv w1 hx => by
          rw [if_neg (fun h => h he), if_neg hv] at hQ
          exact .inl ⟨by rw [hQ], rfl, w1, hx, by rw [hQ]; simp only; rw [Int.toNat_of_nonneg hv0]⟩
      generalize SizeEnd w B (cOne p (txts l)) l = SE at *
      clear hQ hc hl h0 htl
      generalize strOf (l.getD 0 noWd).txt = S at *
      generalize ((l.getD 0 noWd).ln : Int) = A at *
      generalize ((l.getD 0 noWd).col : Int) = C at *
      generalize strOf (l.getD 1 noWd).txt = S' at *
      generalize ((l.getD 1 noWd).ln : Int) = A' at *
      generalize ((l.getD 1 noWd).col : Int) = C' at *
      generalize dV (l.getD 1 noWd).txt = V at *
      generalize dE (l.getD 1 noWd).txt = E at *
      clear h2 hne hM0 hpm hm
      go_enter Tryz.func35, Tryz.ntmps35
      go_wp2_with fail
      refine (hMy 22 _).mono ?_
      rintro e w1 ⟨rfl, hx⟩
      have k0 := r0 w1 hx
      have k1 := r1 w1 hx
      have k2 := r2 w1 hx
      have c0 := s0 w1 hx
      go_wp2
      go_still_tail 9, (by kernel_rfl)
      go_wp2_with fail
      refine (hMy 28 _).mono ?_
      rintro e w2 ⟨rfl, hb⟩
      have hx2 := hx.drew.trans hb
      clear hMy k0 k1 k2 c0 hb
      have k0 := q0 w2 hx2
      have k1 := q1 w2 hx2
      have k2 := q2 w2 hx2
      go_wp2_with fail
      refine (hD _).mono ?_
      rintro e w3 ⟨rfl, rfl⟩
      by_cases he : E = 0
      · subst he
        have hNy0 := hNy 0
        go_wp2_with fail
        refine (hNy0 _).mono ?_
        rintro e w3 ⟨rfl, hb3⟩
        have hx3 := hx2.trans hb3
        clear k0 k1 k2 hb3 hR1 hNy0
        have k0 := q0 w3 hx3
        have k1 := q1 w3 hx3
        have k2 := q2 w3 hx3
        by_cases hva : V < 1
        · have hR := Lib.hid (hR2.out (by simp) (.inl hva))
          have hva' : decide (1 ≤ V) = false := by simp; omega
          clear hR2 hR3
          go_wp2_with fail
          refine (hMn 29 _).mono ?_
          rintro e w4 ⟨rfl, hb⟩
          exact ⟨rfl, hR.out _ (hx3.trans hb)⟩
        · by_cases hvb : 1000000 < V
          · have hR := Lib.hid (hR2.out (by simp) (.inr hvb))
            have hva' : decide (1 ≤ V) = true := by simp; omega
            have hvb' : decide (V ≤ 1000000) = false := by simp; omega
            clear hR2 hR3
            go_wp2_with fail
            refine (hMn 29 _).mono ?_
            rintro e w4 ⟨rfl, hb⟩
            exact ⟨rfl, hR.out _ (hx3.trans hb)⟩
          · have hR := Lib.hid (hR3.out (by simp) (by omega))
            have hva' : decide (1 ≤ V) = true := by simp; omega
            have hvb' : decide (V ≤ 1000000) = true := by simp; omega
            clear hR2 hR3
            go_wp2_with fail
            refine (hNy 29 _).mono ?_
            rintro e w4 ⟨rfl, hb⟩
            have hx4 := hx3.trans hb
            have c0 := s0 w4 hx4
            have F0 := hx4.free (by assumption) f0
            clear hb k0 k1 k2
            go_wp2
            go_end0
            exact hR.out _ hx4
      · have hE' : (E == 0) = false := beq_eq_false_iff_ne.2 he
        have hR := Lib.hid (hR1.out he)
        clear hR1 hR2 hR3
        go_wp2_with fail
        refine (hMn E _).mono ?_
        rintro e w4 ⟨rfl, hb⟩
        exact ⟨rfl, hR.out _ (hx2.trans hb)⟩
  · rw [if_pos h2] at hQ
    have hR : Hid (∀ w', Ext w w' → SizeEnd w B (cOne p (txts l)) l (.panicked [{ v := .iface 89 (.agg #[.int .u16 22, .int .i64 ((l.getD 0 noWd).ln : Int), .int .i64 ((l.getD 0 noWd).col : Int)]), recovered := false }]) w') := Lib.hid fun w' hx => SizeEnd.no 0 (by rw [hQ]) (by rw [hQ]; rfl) (by decide) rfl rfl hx
    generalize SizeEnd w B (cOne p (txts l)) l = SE at *
    have hM := pMustN (strOf (l.getD 0 noWd).txt) 22 ((l.getD 0 noWd).ln : Int) ((l.getD 0 noWd).col : Int)
    unfold fltE flt at hM
    have k0 := r0 w (Ext.refl _)
    have k1 := r1 w (Ext.refl _)
    have k2 := r2 w (Ext.refl _)
    clear hQ hc hl h0 htl s0 r0 r1 r2
    generalize strOf (l.getD 0 noWd).txt = S at *
    generalize ((l.getD 0 noWd).ln : Int) = A at *
    generalize ((l.getD 0 noWd).col : Int) = C at *
    generalize l.length = N at *
    have h2' : ((N : Int) == 2) = false := beq_eq_false_iff_ne.2 (by omega)
    go_enter Tryz.func35, Tryz.ntmps35
    go_wp2_with fail
    refine (hM _).mono ?_
    rintro e w1 ⟨rfl, hx⟩
    exact ⟨rfl, hR.out _ hx⟩

end Go.Proofs.YtdgcgpapcbjfhaaGreatDoor
