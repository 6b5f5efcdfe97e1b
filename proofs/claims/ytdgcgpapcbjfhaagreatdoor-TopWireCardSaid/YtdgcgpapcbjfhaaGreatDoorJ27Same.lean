/- Are policies the same? The reference's question. -/
import Derived.Test.YtdgcgpapcbjfhaaGreatDoorJ23RdrE
import Derived.Test.YtdgcgpapcbjfhaaGreatDoorJ26Split0
import Derived.Deep.QuietTactic
import Derived.BigQuiet
import Derived.Laws.StructEq
set_option linter.unusedVariables false
set_option linter.unusedSimpArgs false

/- A text of rules, by the program. -/
namespace Go.Proofs.YtdgcgpapcbjfhaaGreatDoor
open Go.RowKit

theorem rdr_size {w w1 : World} {base B mB : Nat} {p q : Pl} {a : Option Addr} {cp : Nat} {es : Array MapEntry} {ck : Nat} (h : Rdr w base B mB p a cp es ck) (hx : Ext w w1) (hr : q.rules = p.rules) :
    Rdr (w1.setCell ⟨B, 0, none⟩ (.int .i64 q.most)) base B mB q a cp es ck := by
  have g := h.ext hx
  have hb9 : But (fun x => x = B) w1 (w1.setCell ⟨B, 0, none⟩ (.int .i64 q.most)) := (But.refl (fun x => x = B) w1).setCell rfl _
  refine ⟨?_, ?_, ?_, ?_, ?_, ?_, ?_, ?_, ?_, h.vals, h.lt, h.mlt, h.ne, ?_⟩
  · exact World.cell?_setCell_same _ _ _ g.c0
  · rw [hr, World.cell?_setCell_other (h := addr_ne' (by decide))]; exact g.c1
  · rw [World.cell?_setCell_other (h := addr_ne' (by decide))]; exact g.c2
  · rw [World.frozen?_setCell]; exact g.f0
  · rw [World.frozen?_setCell]; exact g.f1
  · rw [hr]; exact hb9.owns g.own fun k hk e => by have := (g.own.lt k hk).1; have := h.lt; omega
  · rw [hr]; exact h.nil
  · exact (hb9.block mB (Nat.lt_of_lt_of_le h.mlt g.bs) h.ne).trans g.mp
  · rw [hr]; exact h.keys
  · have := hb9.size; have := g.bs; omega
theorem cOne_size {p : Pl} {ts : List (List UInt8)} (h : ts.getD 0 [] = sSize) : (cOne p ts).1.rules = p.rules := by
  rw [cSize h]
  (repeat' split) <;> rfl

theorem ret_cfgP {q : Pl × Int × Int × Int} {m : Nat} {v : Value} {x y z : Int} (h : q.1.most = m) (h1 : q.2.1 = x) (h2 : q.2.2.1 = y) (h3 : q.2.2.2 = z) :
    Ending.returned (.tuple #[plV m v, .int .u16 x, .agg #[.int .i64 y, .int .i64 z]]) = .returned (.tuple #[plV q.1.most v, .int .u16 q.2.1, .agg #[.int .i64 q.2.2.1, .int .i64 q.2.2.2]]) := by rw [h, h1, h2, h3]

theorem rdr_start (W1 : World) : Rdr ((W1.alloc (.map #[] 0)).alloc (.cells #[.int .i64 0, .slice none 0 0, .map (some W1.heap.size)] 94)) (W1.heap.size + 1 + 1) (W1.heap.size + 1) W1.heap.size Pl0 none 0 #[] 0 := by
  have hnew : ∀ i v, (#[.int .i64 0, .slice none 0 0, .map (some W1.heap.size)] : Array Value)[i]? = some v → ((W1.alloc (.map #[] 0)).alloc (.cells #[.int .i64 0, .slice none 0 0, .map (some W1.heap.size)] 94)).cell? ⟨W1.heap.size + 1, i, none⟩ = some v := by
    intro i v hv
    rw [show W1.heap.size + 1 = (W1.alloc (.map #[] 0)).heap.size by simp, World.cell?_alloc_new]; exact hv
  refine ⟨hnew 0 _ rfl, hnew 1 _ rfl, hnew 2 _ rfl, by go_simp, by go_simp, World.ownsRow_nil _ _ _ _, fun _ => rfl, ?_, rfl, by simp, by omega, by omega, by omega, by simp⟩
  rw [(MapKept.heap_alloc _ _).2 _ (by simp)]; exact (MapKept.heap_alloc W1 _).1

/-- what the results' boxes hold is handed back -/
theorem cfg_results {tmps : Array Value} {w : World} {P Q R : Nat} {m e ln col : Int} {v : Option Addr} {n c : Nat} (h2 : tmps[2]?.getD undef = .pointer (some ⟨P, 0, none⟩)) (h3 : tmps[3]?.getD undef = .pointer (some ⟨Q, 0, none⟩)) (h4 : tmps[4]?.getD undef = .pointer (some ⟨R, 0, none⟩))
    (p0 : w.cell? ⟨P, 0, none⟩ = some (.int .i64 m)) (p1 : w.cell? ⟨P, 1, none⟩ = some (.slice v n c)) (q0 : w.cell? ⟨Q, 0, none⟩ = some (.int .u16 e)) (r0 : w.cell? ⟨R, 0, none⟩ = some (.int .i64 ln)) (r1 : w.cell? ⟨R, 1, none⟩ = some (.int .i64 col)) :
    (results Tryz.f14 tmps).run Tryz.prog w = .ok (.tuple #[.agg #[.int .i64 m, .slice v n c], .int .u16 e, .agg #[.int .i64 ln, .int .i64 col]]) w := by
  simp only [results, Tryz.results14]
  simp [h2, h3, h4, go_sem, p0, p1, q0, r0, r1]

/-- the boxes of the results, as they lay -/
structure Res (w : World) (P Q R : Nat) : Prop where
  p0 : ∃ m, w.cell? ⟨P, 0, none⟩ = some (.int .i64 m)
  p1 : ∃ v, w.cell? ⟨P, 1, none⟩ = some v
  q0 : ∃ e, w.cell? ⟨Q, 0, none⟩ = some (.int .u16 e)
  r0 : ∃ x, w.cell? ⟨R, 0, none⟩ = some (.int .i64 x)
  r1 : ∃ x, w.cell? ⟨R, 1, none⟩ = some (.int .i64 x)
  fp0 : w.frozen? ⟨P, 0, none⟩ = false
  fp1 : w.frozen? ⟨P, 1, none⟩ = false
  fq0 : w.frozen? ⟨Q, 0, none⟩ = false
  fr0 : w.frozen? ⟨R, 0, none⟩ = false
  fr1 : w.frozen? ⟨R, 1, none⟩ = false
theorem Res.but {S : Nat → Prop} {w w' : World} {P Q R : Nat} (h : Res w P Q R) (hb : But S w w') (hP : ¬ S P) (hQ : ¬ S Q) (hR : ¬ S R) : Res w' P Q R := by
  obtain ⟨⟨m, p0⟩, ⟨v, p1⟩, ⟨e, q0⟩, ⟨x, r0⟩, ⟨y, r1⟩, f1, f2, f3, f4, f5⟩ := h
  exact ⟨⟨m, hb.cell p0 hP⟩, ⟨v, hb.cell p1 hP⟩, ⟨e, hb.cell q0 hQ⟩, ⟨x, hb.cell r0 hR⟩, ⟨y, hb.cell r1 hR⟩, hb.free p0 hP f1, hb.free p1 hP f2, hb.free q0 hQ f3, hb.free r0 hR f4, hb.free r1 hR f5⟩

theorem door_fault {tmps : Array Value} {Rp : Ending → World → Prop} {w : World} {P Q R : Nat} (e ln col : Int) (h2 : tmps[2]?.getD undef = .pointer (some ⟨P, 0, none⟩)) (h3 : tmps[3]?.getD undef = .pointer (some ⟨Q, 0, none⟩)) (h4 : tmps[4]?.getD undef = .pointer (some ⟨R, 0, none⟩))
    (hPQ : ¬ P = Q) (hPR : ¬ P = R) (hQR : ¬ Q = R) (hr : Res w P Q R) (hend : ∀ w', But (fun x => x = P ∨ x = Q ∨ x = R) w w' → Rp (.returned (.tuple #[.agg #[.int .i64 0, .slice none 0 0], .int .u16 e, .agg #[.int .i64 ln, .int .i64 col]])) w') :
    Leaves Tryz.prog Tryz.f14 tmps Rp [{ target := .fn (.func 34) #[.pointer (some ⟨P, 0, none⟩), .pointer (some ⟨Q, 0, none⟩), .pointer (some ⟨R, 0, none⟩)], args := #[] }] (.panicking [{ v := flt e ln col, recovered := false }]) w := by
  obtain ⟨⟨m, p0⟩, ⟨v, p1⟩, ⟨e0, q0⟩, ⟨x, r0⟩, ⟨y, r1⟩, f1, f2, f3, f4, f5⟩ := hr
  refine leaves_cons (f := 34) (args := #[.pointer (some ⟨P, 0, none⟩), .pointer (some ⟨Q, 0, none⟩), .pointer (some ⟨R, 0, none⟩)]) (by simp) (by simp [go_sem]) ?_
  refine (catch_fault P Q R hPQ hPR hQR e ln col m e0 x y v w p0 p1 f1 f2 q0 f3 r0 r1 f4 f5).mono ?_
  rintro e' u' w' ⟨rfl, rfl, c0, c1, c2, c3, c4, hb⟩
  exact ⟨_, cfg_results h2 h3 h4 c0 c1 c2 c3 c4, hend w' hb⟩
theorem door_idle {tmps : Array Value} {Rp : Ending → World → Prop} {w : World} {P Q R : Nat} {m e ln col : Int} {v : Option Addr} {n c : Nat} (h2 : tmps[2]?.getD undef = .pointer (some ⟨P, 0, none⟩)) (h3 : tmps[3]?.getD undef = .pointer (some ⟨Q, 0, none⟩)) (h4 : tmps[4]?.getD undef = .pointer (some ⟨R, 0, none⟩))
    (p0 : w.cell? ⟨P, 0, none⟩ = some (.int .i64 m)) (p1 : w.cell? ⟨P, 1, none⟩ = some (.slice v n c)) (q0 : w.cell? ⟨Q, 0, none⟩ = some (.int .u16 e)) (r0 : w.cell? ⟨R, 0, none⟩ = some (.int .i64 ln)) (r1 : w.cell? ⟨R, 1, none⟩ = some (.int .i64 col))
    (hend : Rp (.returned (.tuple #[.agg #[.int .i64 m, .slice v n c], .int .u16 e, .agg #[.int .i64 ln, .int .i64 col]])) w) :
    Leaves Tryz.prog Tryz.f14 tmps Rp [{ target := .fn (.func 34) #[.pointer (some ⟨P, 0, none⟩), .pointer (some ⟨Q, 0, none⟩), .pointer (some ⟨R, 0, none⟩)], args := #[] }] .returning w := by
  refine leaves_cons (f := 34) (args := #[.pointer (some ⟨P, 0, none⟩), .pointer (some ⟨Q, 0, none⟩), .pointer (some ⟨R, 0, none⟩)]) (by simp) (by simp [go_sem]) ?_
  refine (catch_idle ⟨P, 0, none⟩ ⟨Q, 0, none⟩ ⟨R, 0, none⟩ w).mono ?_
  rintro e' u' w' ⟨rfl, rfl, rfl⟩
  exact ⟨_, cfg_results h2 h3 h4 p0 p1 q0 r0 r1, hend⟩

set_option maxRecDepth 100000 in
set_option maxHeartbeats 1600000 in
theorem pCfg (a : Option Addr) (cap : Nat) (l : List UInt8) (hl : l.length ≤ 900000) (hcap : l.length ≤ cap) (w : World) (hb : IsBytes w a l) :
    Calls Tryz.prog 14 #[.slice a l.length cap] w fun e w' => ∃ v, e = .returned (.tuple #[plV (cfg l).1.most v, .int .u16 (cfg l).2.1, .agg #[.int .i64 (cfg l).2.2.1, .int .i64 (cfg l).2.2.2]]) ∧ RulesAt w' v (cfg l).1.rules ∧ Ext w w' := by
  have hS := fun W (hx : Ext w W) => pSplitA a cap l hl hcap W (hb.ext hx)
  have hLp := spLines_props l
  have hLl : ∀ k, ((spLines l).getD k []).length ≤ l.length + 1 := fun k => by
    by_cases hk : k < (spLines l).length
    · rw [getD_lt _ _ _ hk]; exact (hLp.2 _ (List.getElem_mem hk)).2.2.1
    · simp [List.getD, hk]
  have hLn : ∀ k, k < (spLines l).length → (spLines l).getD k [] ≠ [] := fun k hk => by rw [getD_lt _ _ _ hk]; exact (hLp.2 _ (List.getElem_mem hk)).1
  have hcs := Lib.hid (And.intro (cfg_split (l := l)) (And.intro (cfg_bad (l := l)) (And.intro (cfg_30 (l := l)) (And.intro (cfg_31 (l := l)) (cfg_ok (l := l))))))
  have hLx : ∀ k i, (((spLines l).getD k []).getD i noWd).txt.length ≤ 1000000 := fun k i => by
    by_cases hk : k < (spLines l).length
    · by_cases hi : i < ((spLines l).getD k []).length
      · rw [getD_lt _ _ _ hi]
        have := spLines_in l _ (by rw [getD_lt _ _ _ hk]; exact List.getElem_mem hk) _ (List.getElem_mem hi)
        omega
      · generalize (spLines l).getD k [] = LL at *
        have e : LL.getD i noWd = noWd := by simp only [List.getD]; rw [List.getElem?_eq_none (Nat.le_of_not_lt hi)]; rfl
        rw [e]; simp [noWd]
    · have e : (spLines l).getD k [] = [] := by simp [List.getD, List.getElem?_eq_none (Nat.le_of_not_lt hk)]
      rw [e]; simp [noWd]
  have hn0 : (spLines l).length ≤ 900001 := by have := hLp.1; omega
  clear hLp hb
  generalize cfg l = CF at *
  generalize spE l = SE at *
  generalize spLn l = SL at *
  generalize spCol l = SC at *
  generalize spLines l = LS at *
  have hmm := @run_makeMap Tryz.prog
  have hmf : ∀ (fn : Fn) (first cap : Array Value) (w : World), (Instr.makeFunc fn first cap).run Tryz.prog w = .ok (.func fn first cap) w := fun _ _ _ _ => rfl
  go_enter_defers Tryz.func14, Tryz.ntmps14
  go_wp2_with fail
  refine (hS _ ?hx).mono ?_
  case hx => repeat (first | exact Ext.refl _ | assumption | apply Ext.drew | apply Ext.alloc | (refine Ext.setCell ?_ (by simp <;> omega) _) | refine Ext.trans ?_ (by assumption))
  rintro e w1 ⟨v, rfl, hL, hx⟩
  have hx1 : Ext w w1 := hx.past.past.past
  obtain ⟨QB, RB, hQB, hRB, hQ1, hQ2⟩ : ∃ QB RB : Nat, w.heap.size + 1 = QB ∧ w.heap.size + 1 + 1 = RB ∧ w.heap.size < QB ∧ QB < RB := ⟨_, _, rfl, rfl, by omega, by omega⟩
  have a0 : w1.cell? ⟨w.heap.size, 0, none⟩ = some (.int .i64 0) := hx.reads (by go_simp)
  have a1 : w1.cell? ⟨w.heap.size, 1, none⟩ = some (.slice none 0 0) := hx.reads (by go_simp)
  have q0 : w1.cell? ⟨QB, 0, none⟩ = some (.int .u16 0) := by subst hQB; exact hx.reads (by go_simp)
  have b0 : w1.cell? ⟨RB, 0, none⟩ = some (.int .i64 0) := by subst hRB; exact hx.reads (by go_simp)
  have b1 : w1.cell? ⟨RB, 1, none⟩ = some (.int .i64 0) := by subst hRB; exact hx.reads (by go_simp)
  have f0 : w1.frozen? ⟨w.heap.size, 0, none⟩ = false := hx.free (v := .int .i64 0) (by go_simp) (by go_simp)
  have f1 : w1.frozen? ⟨w.heap.size, 1, none⟩ = false := hx.free (v := .slice none 0 0) (by go_simp) (by go_simp)
  have fq : w1.frozen? ⟨QB, 0, none⟩ = false := by subst hQB; exact hx.free (v := .int .u16 0) (by go_simp) (by go_simp)
  have g0 : w1.frozen? ⟨RB, 0, none⟩ = false := by subst hRB; exact hx.free (v := .int .i64 0) (by go_simp) (by go_simp)
  have g1 : w1.frozen? ⟨RB, 1, none⟩ = false := by subst hRB; exact hx.free (v := .int .i64 0) (by go_simp) (by go_simp)
  rw [hRB, hQB]
  clear hRB hQB
  obtain ⟨PB, hPB⟩ : ∃ PB, w.heap.size = PB := ⟨_, rfl⟩
  rw [hPB] at a0 a1 f0 f1 hQ1 ⊢
  have hPw : w.heap.size ≤ PB := by omega
  clear hPB
  have hs2 : RB < w1.heap.size := World.block_lt_of_cell? w1 _ b0
  have hs1 : QB < w1.heap.size := by omega
  have hs0 : PB < w1.heap.size := by omega
  have nPQ : ¬ PB = QB := by omega
  have nPR : ¬ PB = RB := by omega
  have nQR : ¬ QB = RB := by omega
  clear hx hS
  obtain ⟨la, lc, rfl, hLf⟩ := hL.form
  have hLine1 : Hid (∀ k, k < LS.length → ∃ g gr cr, la = some ⟨g, 0, none⟩ ∧ LS.length ≤ lc ∧ (LS.getD k []).length ≤ cr ∧ w1.cell? ⟨g, k, none⟩ = some (.slice (some ⟨gr, 0, none⟩) (LS.getD k []).length cr) ∧ WdsAt w1 gr (LS.getD k []) ∧ ¬ (g = PB ∨ g = QB ∨ g = RB) ∧ ¬ (gr = PB ∨ gr = QB ∨ gr = RB)) := Lib.hid (by
    intro k hk
    obtain ⟨g, e, hlc, hf⟩ := hLf (fun e => by rw [e] at hk; simp at hk)
    obtain ⟨gr, cr, h1, h2, h3⟩ := hf k hk (hLn k hk)
    obtain ⟨gr0, cr0, h10, _, _⟩ := hf 0 (by omega) (hLn 0 (by omega))
    have hne0 : 0 < (LS.getD k []).length := Nat.pos_of_ne_zero fun e => hLn k hk (List.eq_nil_of_length_eq_zero e)
    have h30 := (h3 0 hne0).1
    rw [Nat.zero_mul] at h30
    refine ⟨g, gr, cr, e, hlc, h2, h1, h3, ?_, ?_⟩
    · rintro (h | h | h)
      · rw [h, a0] at h10; cases h10
      · rw [h, q0] at h10; cases h10
      · rw [h, b0] at h10; cases h10
    · rintro (h | h | h)
      · rw [h, a0] at h30; cases h30
      · rw [h, q0] at h30; cases h30
      · rw [h, b0] at h30; cases h30)
  by_cases hse : SE = 0
  · subst hse
    obtain ⟨-, hcs⟩ := hcs.out
    have hcs := Lib.hid hcs
    go_wp2
    obtain ⟨W1, hW1⟩ : ∃ W1, ((w1.setCell ⟨QB, 0, none⟩ (.int .u16 0)).setCell ⟨RB, 0, none⟩ (.int .i64 SL)).setCell ⟨RB, 1, none⟩ (.int .i64 SC) = W1 := ⟨_, rfl⟩
    have hb1 : But (fun x => x = PB ∨ x = QB ∨ x = RB) w1 W1 := by subst hW1; exact (((But.refl (fun x => x = PB ∨ x = QB ∨ x = RB) w1).setCell (.inr (.inl rfl)) _).setCell (.inr (.inr rfl)) _).setCell (.inr (.inr rfl)) _
    have hz1 : W1.heap.size = w1.heap.size := by subst hW1; simp
    have A0 : W1.cell? ⟨PB, 0, none⟩ = some (.int .i64 0) := by subst hW1; go_simp
    have A1 : W1.cell? ⟨PB, 1, none⟩ = some (.slice none 0 0) := by subst hW1; go_simp
    have Q0 : W1.cell? ⟨QB, 0, none⟩ = some (.int .u16 0) := by subst hW1; go_simp
    have B0 : W1.cell? ⟨RB, 0, none⟩ = some (.int .i64 SL) := by subst hW1; go_simp
    have B1 : W1.cell? ⟨RB, 1, none⟩ = some (.int .i64 SC) := by subst hW1; go_simp
    have F0 : W1.frozen? ⟨PB, 0, none⟩ = false := by subst hW1; go_simp
    have F1 : W1.frozen? ⟨PB, 1, none⟩ = false := by subst hW1; go_simp
    have Fq : W1.frozen? ⟨QB, 0, none⟩ = false := by subst hW1; go_simp
    have G0 : W1.frozen? ⟨RB, 0, none⟩ = false := by subst hW1; go_simp
    have G1 : W1.frozen? ⟨RB, 1, none⟩ = false := by subst hW1; go_simp
    rw [hW1]
    clear hW1 a0 a1 q0 b0 b1 f0 f1 fq g0 g1
    have hRx : Hid (Ext w W1) := Lib.hid (hb1.ext hx1 (by rintro x (rfl | rfl | rfl) <;> omega))
    obtain ⟨mB, hmB⟩ : ∃ mB, w1.heap.size = mB := ⟨_, rfl⟩
    obtain ⟨B, hB⟩ : ∃ B, w1.heap.size + 1 = B := ⟨_, rfl⟩
    rw [hB, hmB]
    obtain ⟨W, hW⟩ : ∃ W, (W1.alloc (.map #[] 0)).alloc (.cells #[.int .i64 0, .slice none 0 0, .map (some mB)] 94) = W := ⟨_, rfl⟩
    have hm1 : mB = W1.heap.size := by omega
    have hm2 : B = mB + 1 := by omega
    have xW : Ext W1 W := by subst hW; repeat (first | exact Ext.refl _ | assumption | apply Ext.drew | apply Ext.alloc | (refine Ext.setCell ?_ (by simp <;> omega) _) | refine Ext.trans ?_ (by assumption))
    have hRd0 : Hid (Rdr W (B + 1) B mB Pl0 none 0 #[] 0) := Lib.hid (by
      have := rdr_start W1
      rw [← hm1, ← hm2, hW] at this
      exact this)
    rw [hW]
    clear hW hB hmB
    have hmR : RB < mB := by omega
    have hRes : Hid (Res W PB QB RB) := Lib.hid (Res.but (S := fun _ => False) ⟨⟨_, A0⟩, ⟨_, A1⟩, ⟨_, Q0⟩, ⟨_, B0⟩, ⟨_, B1⟩, F0, F1, Fq, G0, G1⟩ (But.of_ext xW) (fun h => h) (fun h => h) (fun h => h))
    have hLine : Hid (∀ k, k < LS.length → ∃ g gr cr, la = some ⟨g, 0, none⟩ ∧ LS.length ≤ lc ∧ (LS.getD k []).length ≤ cr ∧ ∀ wx, But (fun x => x = B ∨ x = mB ∨ B + 1 ≤ x) W wx → wx.cell? ⟨g, k, none⟩ = some (.slice (some ⟨gr, 0, none⟩) (LS.getD k []).length cr) ∧ WdsAt wx gr (LS.getD k [])) := Lib.hid (by
      intro k hk
      obtain ⟨g, gr, cr, e, hlc, h2, h1, h3, n1, n2⟩ := hLine1.out k hk
      refine ⟨g, gr, cr, e, hlc, h2, fun wx hB => ?_⟩
      have low : ∀ {ad : Addr} {u : Value}, w1.cell? ad = some u → ¬ (ad.block = PB ∨ ad.block = QB ∨ ad.block = RB) → wx.cell? ad = some u := fun {ad u} h hn => by
        have hlt := World.block_lt_of_cell? w1 _ h
        exact hB.cell (xW.reads (hb1.cell h hn)) (by omega)
      exact ⟨low h1 n1, fun i hi => ⟨low (h3 i hi).1 n2, low (h3 i hi).2.1 n2, low (h3 i hi).2.2 n2⟩⟩)
    have hxW : Hid (Ext w W) := Lib.hid (hRx.out.trans xW)
    have hwm : w.heap.size ≤ mB := by omega
    have hmB1 : mB < B := by omega
    clear hL hLf hLine1 hb1 hz1 A0 A1 Q0 B0 B1 F0 F1 Fq G0 G1 xW hRx hm1 hm2 hx1 hs0 hs1 hs2
    go_loopw [8, 26] (fun _ i wr => ∃ (k : Nat) (p : Pl), k ≤ LS.length ∧ i = .int .i64 k ∧ Hid (cFold Pl0 LS = cFold p (LS.drop k)) ∧ Hid (okP p) ∧ Hid (∃ a cp es ck, Rdr wr (B + 1) B mB p a cp es ck) ∧ Hid (But (fun x => x = B ∨ x = mB ∨ B + 1 ≤ x) W wr)) (fun _ i _ => LS.length - (intOf i).toNat)
    case atStart => exact ⟨0, Pl0, Nat.zero_le _, rfl, Lib.hid rfl, Lib.hid okP_0, Lib.hid ⟨_, _, _, _, hRd0.out⟩, Lib.hid (But.refl _ _)⟩
    case round =>
      obtain ⟨k, p, hk, rfl, hF, hok, hRd, hB⟩ := hrel
      by_cases hlt : k < LS.length
      · obtain ⟨g, gr, cr, rfl, hlc, hcr, hcell⟩ := hLine.out k hlt
        have hmpos : 0 < (LS.getD k []).length := Nat.pos_of_ne_zero fun e => hLn k hlt (List.eq_nil_of_length_eq_zero e)
        have hLlk := hLl k
        have hLxk := hLx k
        obtain ⟨cg, cw⟩ := hcell wr hB.out
        have hWd := Lib.hid cw
        obtain ⟨z0, z1, z2⟩ := cw 0 hmpos
        rw [Nat.zero_mul] at z0 z1 z2
        have hS0 := strOf_eq ((LS.getD k []).getD 0 noWd).txt sSize
        obtain ⟨ra, rcp, res, rck, hRdd⟩ := hRd.out
        have hRdH := Lib.hid hRdd
        have hgo := Lib.hid (cFold_go (p := p) hlt)
        have hbad := Lib.hid (cFold_bad (p := p) hlt)
        clear hcell cw hRdd hRd
        have hEnd : Hid ((cOne p (txts (LS.getD k []))).2.1 ≠ 0 → ∀ w2 w', But (fun x => x = B ∨ x = mB ∨ B + 1 ≤ x) W w2 → But (fun x => x = PB ∨ x = QB ∨ x = RB) w2 w' →
            ∃ v, Ending.returned (.tuple #[.agg #[.int .i64 0, .slice none 0 0], .int .u16 (cOne p (txts (LS.getD k []))).2.1, .agg #[.int .i64 (((LS.getD k []).getD (cOne p (txts (LS.getD k []))).2.2.toNat noWd).ln : Int), .int .i64 (((LS.getD k []).getD (cOne p (txts (LS.getD k []))).2.2.toNat noWd).col : Int)]]) = .returned (.tuple #[plV CF.1.most v, .int .u16 CF.2.1, .agg #[.int .i64 CF.2.2.1, .int .i64 CF.2.2.2]]) ∧ RulesAt w' v CF.1.rules ∧ Ext w w') := Lib.hid fun he w2 w' h1 h2 => by
          have e1 := hF.out.trans (hbad.out he)
          have e2 := hcs.out.1 (by simp) (by rw [e1]; exact he)
          rw [e1] at e2
          refine ⟨.slice none 0 0, ret_cfgP (m := 0) (by rw [e2]; rfl) (by rw [e2]) (by rw [e2]) (by rw [e2]), ?_, ?_⟩
          · rw [e2]; exact RulesAt.nil _
          · exact h2.ext (h1.ext hxW.out (by rintro x (rfl | rfl | h) <;> omega)) (by rintro x (rfl | rfl | rfl) <;> omega)
        have hok2 := Lib.hid (cOne_ok (ts := txts (LS.getD k [])) hok.out)
        have hmost := hok.out.1
        have hokH := hok
        have hRs : Hid (∀ w2, But (fun x => x = B ∨ x = mB ∨ B + 1 ≤ x) W w2 → Res w2 PB QB RB) := Lib.hid fun w2 h => hRes.out.but h (by omega) (by omega) (by omega)
        have hsr : Hid ((txts (LS.getD k [])).getD 0 [] = sSize → (cOne p (txts (LS.getD k []))).1.rules = p.rules) := Lib.hid fun h => cOne_size h
        have htx := Lib.hid (txts_get (LS.getD k []) 0)
        by_cases hs : ((LS.getD k []).getD 0 noWd).txt = sSize
        · have hSz := pSize p (LS.getD k []) gr cr B hmpos hcr hLxk hmost hs wr hWd.out hRdH.out.c0 hRdH.out.f0
          have hsr2 := Lib.hid (hsr.out (htx.out.trans hs))
          rw [decide_eq_true hs] at hS0
          have hS0 : ((strOf ((LS.getD k []).getD 0 noWd).txt).toList == [115, 105, 122, 101]) = true := hS0
          clear hsr htx hs hok hbad hWd hcs hRes hLine
          generalize hLk : LS.getD k [] = Lk at *
          generalize strOf (Lk.getD 0 noWd).txt = ST at *
          generalize ((Lk.getD 0 noWd).ln : Int) = A1 at *
          generalize ((Lk.getD 0 noWd).col : Int) = A2 at *
          go_wp2_with fail
          refine hSz.mono ?_
          rintro e w2 (⟨he, rfl, w3, hx3, rfl⟩ | ⟨he, rfl, hx3⟩)
          · have hB2 : Hid (But (fun x => x = B ∨ x = mB ∨ B + 1 ≤ x) W (w3.setCell ⟨B, 0, none⟩ (.int .i64 (cOne p (txts Lk)).1.most))) := Lib.hid ((hB.out.trans (But.of_ext hx3)).setCell (.inl rfl) _)
            have hRd2 : Hid (∃ a cp es ck, Rdr (w3.setCell ⟨B, 0, none⟩ (.int .i64 (cOne p (txts Lk)).1.most)) (B + 1) B mB (cOne p (txts Lk)).1 a cp es ck) := Lib.hid ⟨_, _, _, _, rdr_size hRdH.out hx3 hsr2.out⟩
            have hF2 := Lib.hid (hF.out.trans (hgo.out he))
            clear hSz hB hRdH hgo hEnd hRs hF
            generalize cOne p (txts Lk) = Q at *
            generalize w3.setCell ⟨B, 0, none⟩ (.int .i64 Q.1.most) = w4 at *
            go_wp2
            go_roundw
            case rel => exact ⟨k + 1, Q.1, by omega, by go_num, hF2, hok2, hRd2, hB2⟩
            case measure => (simp [intOf]) <;> omega
          · have hB2 := hB.out.trans (But.of_ext hx3)
            exact door_fault _ _ _ rfl rfl rfl nPQ nPR nQR (hRs.out _ hB2) fun w' hw' => hEnd.out he _ _ hB2 hw'
        · have hSz := pRdRule p (LS.getD k []) gr cr (B + 1) B mB ra rcp res rck hmpos hcr (by omega) hLxk hok.out hs wr hWd.out hRdH.out
          rw [decide_eq_false hs] at hS0
          have hS0 : ((strOf ((LS.getD k []).getD 0 noWd).txt).toList == [115, 105, 122, 101]) = false := hS0
          clear hsr htx hs hok hbad hWd hcs hRes hLine
          generalize hLk : LS.getD k [] = Lk at *
          generalize strOf (Lk.getD 0 noWd).txt = ST at *
          generalize ((Lk.getD 0 noWd).ln : Int) = A1 at *
          generalize ((Lk.getD 0 noWd).col : Int) = A2 at *
          go_wp2_with fail
          refine hSz.mono ?_
          rintro e w2 (⟨he, rfl, hr2, hx3⟩ | ⟨he, rfl, hx3⟩)
          · have hB2 : Hid (But (fun x => x = B ∨ x = mB ∨ B + 1 ≤ x) W w2) := Lib.hid (hB.out.trans hx3)
            have hRd2 := Lib.hid hr2
            have hF2 := Lib.hid (hF.out.trans (hgo.out he))
            clear hSz hB hRdH hgo hEnd hRs hF hr2 hx3
            generalize cOne p (txts Lk) = Q at *
            go_wp2
            go_roundw
            case rel => exact ⟨k + 1, Q.1, by omega, by go_num, hF2, hok2, hRd2, hB2⟩
            case measure => (simp [intOf]) <;> omega
          · have hB2 := hB.out.trans (But.of_ext hx3)
            exact door_fault _ _ _ rfl rfl rfl nPQ nPR nQR (hRs.out _ hB2) fun w' hw' => hEnd.out he _ _ hB2 hw'
      · obtain rfl : k = LS.length := by omega
        have hFF : cFold Pl0 LS = (p, 0, 0, 0) := by have := hF.out; rw [List.drop_length] at this; exact this
        rw [hFF] at hcs
        have hcs := Lib.hid hcs.out.2
        have hRs : Hid (∀ w2, But (fun x => x = B ∨ x = mB ∨ B + 1 ≤ x) W w2 → Res w2 PB QB RB) := Lib.hid fun w2 h => hRes.out.but h (by omega) (by omega) (by omega)
        obtain ⟨ra, rcp, res, rck, hRdd⟩ := hRd.out
        have hE := pRdEnd p (B + 1) B mB ra rcp res rck hok.out.1 wr hRdd
        have hEv := Lib.hid (show endE p = if p.most = 0 then fltE 30 0 0 else if hasP p.rules [] then .returned (.tuple #[]) else fltE 31 0 0 from rfl)
        have hRdH := Lib.hid hRdd
        have hEnd : Hid (∀ E, CF = (Pl0, E, 0, 0) → ∀ w2 w', But (fun x => x = B ∨ x = mB ∨ B + 1 ≤ x) W w2 → But (fun x => x = PB ∨ x = QB ∨ x = RB) w2 w' →
            ∃ v, Ending.returned (.tuple #[.agg #[.int .i64 0, .slice none 0 0], .int .u16 E, .agg #[.int .i64 0, .int .i64 0]]) = .returned (.tuple #[plV CF.1.most v, .int .u16 CF.2.1, .agg #[.int .i64 CF.2.2.1, .int .i64 CF.2.2.2]]) ∧ RulesAt w' v CF.1.rules ∧ Ext w w') := Lib.hid fun E e2 w2 w' h1 h2 => by
          refine ⟨.slice none 0 0, ret_cfgP (m := 0) (by rw [e2]; rfl) (by rw [e2]) (by rw [e2]) (by rw [e2]), ?_, ?_⟩
          · rw [e2]; exact RulesAt.nil _
          · exact h2.ext (h1.ext hxW.out (by rintro x (rfl | rfl | h) <;> omega)) (by rintro x (rfl | rfl | rfl) <;> omega)
        clear hF hFF hLine hRd hRdd hLl hLn hLx hRes hRd0
        by_cases hm0 : p.most = 0
        · have e2 := hcs.out.1 (by simp) (by simp) hm0
          rw [hEv.out, if_pos hm0] at hE
          go_wp2_with fail
          refine hE.mono ?_
          rintro e w2 ⟨rfl, hx3⟩
          have hB2 := hB.out.trans (But.of_ext hx3)
          exact door_fault _ _ _ rfl rfl rfl nPQ nPR nQR (hRs.out _ hB2) fun w' hw' => hEnd.out _ e2 _ _ hB2 hw'
        · cases hh : hasP p.rules []
          · have e2 := hcs.out.2.1 (by simp) (by simp) hm0 hh
            rw [hEv.out, if_neg hm0, hh, if_neg (by decide)] at hE
            clear hh
            go_wp2_with fail
            refine hE.mono ?_
            rintro e w2 ⟨rfl, hx3⟩
            have hB2 := hB.out.trans (But.of_ext hx3)
            exact door_fault _ _ _ rfl rfl rfl nPQ nPR nQR (hRs.out _ hB2) fun w' hw' => hEnd.out _ e2 _ _ hB2 hw'
          · have e2 := hcs.out.2.2 (by simp) (by simp) hm0 hh
            rw [hEv.out, if_neg hm0, hh, if_pos rfl] at hE
            have hne : p.rules ≠ [] := fun e => by rw [e] at hh; cases hh
            clear hh
            go_wp2_with fail
            refine hE.mono ?_
            rintro e w2 ⟨rfl, hx3⟩
            have hRd2 := hRdH.out.ext hx3
            have c0 := hRd2.c0
            have c1 := hRd2.c1
            have hOr := pOrder p.most (.slice ra p.rules.length rcp) p.rules hne hok.out.2.1 hok.out.2.2.2 w2 ⟨hRd2.nil, owns_mono hRd2.own (Nat.zero_le _)⟩
            have hB2 := Lib.hid (hB.out.trans (But.of_ext hx3))
            unfold plV at hOr
            clear hRd2 hRdH hE hEv hEnd hx3 hcs hok hB hne
            generalize p.rules.length = n at *
            go_wp2_with fail
            refine hOr.mono ?_
            rintro e w3 ⟨v', rfl, hR3, hx4⟩
            obtain ⟨va, vc, rfl, -⟩ := hR3.form
            have hB3 := Lib.hid (hB2.out.trans (But.of_ext hx4))
            have hE3 : Hid (Ext w w3) := Lib.hid (hB3.out.ext hxW.out (by rintro x (rfl | rfl | h) <;> omega))
            obtain ⟨⟨m0, p0⟩, ⟨m1, p1⟩, ⟨m2, q0⟩, ⟨m3, r0⟩, ⟨m4, r1⟩, s1, s2, s3, s4, s5⟩ := hRs.out w3 hB3.out
            have n0 : ∀ x, (Value.slice va (sortR p.rules).length vc).ownBlock = some x → x ≠ PB := hR3.ne p0
            have n2 : ∀ x, (Value.slice va (sortR p.rules).length vc).ownBlock = some x → x ≠ RB := hR3.ne r0
            have n1 : ∀ x, (Value.slice va (sortR p.rules).length vc).ownBlock = some x → x ≠ QB := by
              intro x hx e
              subst e
              by_cases hr : sortR p.rules = []
              · rw [hR3.1 hr] at hx; simp [Value.ownBlock] at hx
              · obtain ⟨a', cp', ev, hf⟩ := hR3.form
                injection ev with ev1 ev2 ev3
                obtain ⟨g', e', _⟩ := hf hr
                rw [← ev1] at e'
                subst e'
                rw [← ev3] at *
                simp [Value.ownBlock] at hx
                subst hx
                have := (RulesAt.cells hR3 (i := 0) (Nat.pos_of_ne_zero fun e => hr (List.eq_nil_of_length_eq_zero e))).1
                rw [show (0 : Nat) * 4 = 0 from rfl, q0] at this
                cases this
            have hR3H := Lib.hid hR3
            have hnH := Lib.hid (And.intro n0 (And.intro n1 n2))
            clear hOr hR3 n0 n1 n2 hx4 hB2 hB3 hRs c0 c1
            generalize hN2 : (sortR p.rules).length = n2 at *
            have hpl : PB < w3.heap.size := World.block_lt_of_cell? w3 _ p0
            have hql : QB < w3.heap.size := World.block_lt_of_cell? w3 _ q0
            have hrl : RB < w3.heap.size := World.block_lt_of_cell? w3 _ r0
            go_wp2
            refine door_idle (m := p.most) (v := va) (n := n2) (c := vc) (e := 0) (ln := 0) (col := 0) rfl rfl rfl (by go_simp) (by go_simp) (by go_simp) (by go_simp) (by go_simp) ⟨.slice va n2 vc, ret_cfgP (by rw [e2]) (by rw [e2]) (by rw [e2]) (by rw [e2]), ?_, ?_⟩
            all_goals
              have hbb : But (fun x => x = PB ∨ x = QB ∨ x = RB) w3 (((((w3.setCell ⟨PB, 0, none⟩ (.int .i64 p.most)).setCell ⟨PB, 1, none⟩ (.slice va n2 vc)).setCell ⟨QB, 0, none⟩ (.int .u16 0)).setCell ⟨RB, 0, none⟩ (.int .i64 0)).setCell ⟨RB, 1, none⟩ (.int .i64 0)) :=
                (((((But.refl (fun x => x = PB ∨ x = QB ∨ x = RB) w3).setCell (.inl rfl) _).setCell (.inl rfl) _).setCell (.inr (.inl rfl)) _).setCell (.inr (.inr rfl)) _).setCell (.inr (.inr rfl)) _
            · rw [e2]
              refine ⟨hR3H.out.1, hbb.owns hR3H.out.2 fun x hx h => ?_⟩
              rcases h with h | h | h
              · exact hnH.out.1 x hx h
              · exact hnH.out.2.1 x hx h
              · exact hnH.out.2.2 x hx h
            · exact hbb.ext hE3.out (by rintro x (rfl | rfl | rfl) <;> omega)
  · have hR := Lib.hid (hcs.out.1 hse)
    have hse' : (SE != 0) = true := by simp [hse]
    clear hcs hL hLf hLl hLn hLx
    generalize LS.length = LN at *
    go_wp2
    obtain ⟨W1, hW1⟩ : ∃ W1, ((w1.setCell ⟨QB, 0, none⟩ (.int .u16 SE)).setCell ⟨RB, 0, none⟩ (.int .i64 SL)).setCell ⟨RB, 1, none⟩ (.int .i64 SC) = W1 := ⟨_, rfl⟩
    have hb1 : But (fun x => x = PB ∨ x = QB ∨ x = RB) w1 W1 := by subst hW1; exact (((But.refl (fun x => x = PB ∨ x = QB ∨ x = RB) w1).setCell (.inr (.inl rfl)) _).setCell (.inr (.inr rfl)) _).setCell (.inr (.inr rfl)) _
    have a0 : W1.cell? ⟨PB, 0, none⟩ = some (.int .i64 0) := by subst hW1; go_simp
    have a1 : W1.cell? ⟨PB, 1, none⟩ = some (.slice none 0 0) := by subst hW1; go_simp
    have q0 : W1.cell? ⟨QB, 0, none⟩ = some (.int .u16 SE) := by subst hW1; go_simp
    have b0 : W1.cell? ⟨RB, 0, none⟩ = some (.int .i64 SL) := by subst hW1; go_simp
    have b1 : W1.cell? ⟨RB, 1, none⟩ = some (.int .i64 SC) := by subst hW1; go_simp
    have f0 : W1.frozen? ⟨PB, 0, none⟩ = false := by subst hW1; go_simp
    have f1 : W1.frozen? ⟨PB, 1, none⟩ = false := by subst hW1; go_simp
    have fq : W1.frozen? ⟨QB, 0, none⟩ = false := by subst hW1; go_simp
    have g0 : W1.frozen? ⟨RB, 0, none⟩ = false := by subst hW1; go_simp
    have g1 : W1.frozen? ⟨RB, 1, none⟩ = false := by subst hW1; go_simp
    rw [hW1]
    clear hW1
    go_region
    all_goals
      go_wp2
      refine ⟨.tuple #[.agg #[.int .i64 0, .slice none 0 0], .int .u16 SE, .agg #[.int .i64 SL, .int .i64 SC]], cfg_results rfl rfl rfl (by go_simp) (by go_simp) (by go_simp) (by go_simp) (by go_simp), .slice none 0 0, ?_, ?_, ?_⟩
      · exact ret_cfgP (by rw [hR.out]; rfl) (by rw [hR.out]) (by rw [hR.out]) (by rw [hR.out])
      · rw [hR.out]; exact RulesAt.nil _
      · refine But.ext (S := fun x => x = PB ∨ x = QB ∨ x = RB) (a := w1) ?_ hx1 (by rintro x (rfl | rfl | rfl) <;> omega)
        refine hb1.trans ?_
        repeat (first | exact But.refl _ _ | apply But.drew | apply But.alloc | (refine But.setCell ?_ (by simp) _))


end Go.Proofs.YtdgcgpapcbjfhaaGreatDoor

/- Are policies the same? The reference's question. -/
namespace Go.Proofs.YtdgcgpapcbjfhaaGreatDoor
open Go.RowKit

theorem fieldsRl : Tryz.prog.underlying 47 = some (.struct (Tryz.prog.fieldsOf 47)) := by kernel_rfl
theorem stoodRl : Tryz.prog.stoodInHeld 47 = false := by kernel_rfl
theorem neqRl (s : ByteArray) (a b k : Int) (w : World) : (binOp .neq 47 (.agg #[.string s, .int .u64 a, .int .u64 b, .int .u8 k]) (.agg #[.string s, .int .u64 a, .int .u64 b, .int .u8 k])).run Tryz.prog w = .ok (.bool false) w := by
  rw [run_neq_struct, run_equalIn_agg _ _ _ _ _ fieldsRl stoodRl]
  simp [go_sem]

set_option maxRecDepth 100000 in
set_option maxHeartbeats 1600000 in
theorem rSame (m : Nat) (v v' : Value) (rs : List Rl) (hn : rs.length ≤ 1000000) (w : World) (h1 : RulesAt w v rs) (h2 : RulesAt w v' rs) :
    Calls Tryz.prog 16 #[plV m v, plV m v'] w fun e w' => e = .returned (.bool true) ∧ Ext w w' := by
  obtain ⟨a, cp, rfl, hf⟩ := h1.form
  obtain ⟨a', cp', rfl, hf'⟩ := h2.form
  have hH := Lib.hid h1
  have hH' := Lib.hid h2
  have hF := Lib.hid hf
  have hF' := Lib.hid hf'
  have hq := neqRl
  clear h1 h2 hf hf'
  unfold plV
  obtain ⟨n, hN⟩ : ∃ n, rs.length = n := ⟨_, rfl⟩
  rw [hN] at hn ⊢
  have hNH := Lib.hid hN
  clear hN
  go_enter Tryz.func16, Tryz.ntmps16
  go_wp2
  obtain ⟨W, hW⟩ : ∃ W, (w.alloc (.cells #[.int .i64 m, .slice a n cp] 30)).alloc (.cells #[.int .i64 m, .slice a' n cp'] 30) = W := ⟨_, rfl⟩
  have xW : Ext w W := by subst hW; repeat (first | exact Ext.refl _ | assumption | apply Ext.drew | apply Ext.alloc | (refine Ext.setCell ?_ (by simp <;> omega) _) | refine Ext.trans ?_ (by assumption))
  have b0 : W.cell? ⟨w.heap.size, 1, none⟩ = some (.slice a n cp) := by subst hW; go_simp
  have b1 : W.cell? ⟨w.heap.size + 1, 1, none⟩ = some (.slice a' n cp') := by subst hW; go_simp
  rw [hW]
  clear hW
  go_loopw [5] (fun i wr => ∃ k : Nat, k ≤ n ∧ i = .int .i64 k ∧ Ext W wr) (fun i _ => n - (intOf i).toNat)
  case atStart => exact ⟨0, Nat.zero_le _, rfl, Ext.refl _⟩
  case round =>
    obtain ⟨k, hk, rfl, hx⟩ := hrel
    have B0 := hx.reads b0
    have B1 := hx.reads b1
    by_cases hlt : k < n
    · obtain ⟨g, rfl, hgs, hgc, hgm⟩ := hF.out (by rintro rfl; have := hNH.out; simp at this; omega)
      obtain ⟨g', rfl, hgs', hgc', hgm'⟩ := hF'.out (by rintro rfl; have := hNH.out; simp at this; omega)
      have hxw := xW.trans hx
      obtain ⟨k0, k1, k2, k3⟩ := RulesAt.cells (hH.out.ext hxw) (i := k) (by rw [hNH.out]; exact hlt)
      obtain ⟨m0, m1, m2, m3⟩ := RulesAt.cells (hH'.out.ext hxw) (i := k) (by rw [hNH.out]; exact hlt)
      generalize strOf (rs.getD k Rl0).pre = S at *
      generalize (rs.getD k Rl0).ev = E1 at *
      generalize (rs.getD k Rl0).bu = E2 at *
      generalize ((rs.getD k Rl0).kd : Int) = E3 at *
      have hz1 : (0 : Int) ≤ (k : Int) := by omega
      have hz2 : (k : Int) < (n : Int) := by omega
      go_wp2
      go_quiet (fail)
      have hx2 : Ext W (wr.drewN nq) := below_drewN hx nq
      go_wp2
      go_roundw
      case rel => exact ⟨k + 1, by omega, by go_num, hx2⟩
      case measure => (simp [intOf]) <;> omega
    · obtain rfl : k = n := by omega
      go_wp2
      go_ret
      exact ⟨rfl, xW.trans hx⟩

end Go.Proofs.YtdgcgpapcbjfhaaGreatDoor
