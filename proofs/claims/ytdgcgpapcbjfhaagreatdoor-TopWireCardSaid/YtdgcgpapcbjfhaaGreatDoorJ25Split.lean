/- Words of a text, by the program: all lines. -/
import Derived.Test.YtdgcgpapcbjfhaaGreatDoorJ12SplitR
import Derived.Test.YtdgcgpapcbjfhaaGreatDoorJ24Float
import Derived.Laws.ComplexArith
import Derived.Laws.Cover2
import Derived.Laws.Cover3
import Derived.Deep.RegionHeldLaw
import Derived.Deep.AppendLies
set_option linter.unusedVariables false
set_option linter.unusedSimpArgs false

/- Words of a text, by the program. -/
namespace Go.Proofs.YtdgcgpapcbjfhaaGreatDoor
open Go.RowKit

def wk (p : Nat) : Nat := if p = 10 then 2 else if p = 32 ∨ p = 9 then 1 else if 33 ≤ p ∧ p ≤ 126 then 0 else 3
theorem wKind_wk (c : UInt8) (p : Nat) (h : c.toNat = p) : wKind c = wk p := wKind_num c p h

theorem ret_i64 {a b : Int} (h : a = b) : Ending.returned (.int .i64 a) = .returned (.int .i64 b) := by rw [h]

theorem pKind (p : Nat) (h1 : p ≤ 255) (w : World) :
    Calls Tryz.prog 56 #[.int .u8 p] w fun e w' => e = .returned (.int .i64 (wk p)) ∧ w = w' := by
  unfold wk
  by_cases h10 : p = 10
  · subst h10
    go_enter Tryz.func56, Tryz.ntmps56
    go_wp2
    go_ret
    exact ⟨rfl, rfl⟩
  have e10 : ((p : Int) == 10) = false := beq_eq_false_iff_ne.2 (by omega)
  rw [if_neg h10]
  by_cases h32 : p = 32
  · subst h32
    go_enter Tryz.func56, Tryz.ntmps56
    go_wp2
    go_ret
    exact ⟨rfl, rfl⟩
  have e32 : ((p : Int) == 32) = false := beq_eq_false_iff_ne.2 (by omega)
  by_cases h9 : p = 9
  · subst h9
    go_enter Tryz.func56, Tryz.ntmps56
    go_wp2
    go_ret
    exact ⟨rfl, rfl⟩
  have e9 : ((p : Int) == 9) = false := beq_eq_false_iff_ne.2 (by omega)
  rw [if_neg (by omega)]
  by_cases h33 : 33 ≤ p
  · by_cases h126 : p ≤ 126
    · rw [if_pos ⟨h33, h126⟩]
      go_enter Tryz.func56, Tryz.ntmps56
      go_wp2
      go_ret
      exact ⟨rfl, rfl⟩
    · rw [if_neg (by omega)]
      go_enter Tryz.func56, Tryz.ntmps56
      go_wp2
      go_ret
      exact ⟨rfl, rfl⟩
  · rw [if_neg (by omega)]
    go_enter Tryz.func56, Tryz.ntmps56
    go_wp2
    go_ret
    exact ⟨rfl, rfl⟩

theorem run_fl_int {n : Nat} (h : n < 2 ^ 53) (w : World) : (convert 120 3 (.float .f64 (Fl n))).run Tryz.prog w = .ok (.int .i64 (n : Int)) w := by
  refine run_convert_float_int w _ _ _ _ _ _ (by rw [Tryz.underlying120]; rfl) Tryz.underlying3 ?_
  unfold floatToIntVal
  rw [fl_toInt h]
  have e1 : IntKind.i64.min = -9223372036854775808 := by decide
  have e2 : IntKind.i64.max = 9223372036854775807 := by decide
  simp only [e1, e2]
  rw [if_pos ⟨by omega, by omega⟩]

theorem pPlace (a b : Nat) (ha : a < 2 ^ 53) (hb : b < 2 ^ 53) (w : World) :
    Calls Tryz.prog 54 #[.complex .f64 (Fl a) (Fl b)] w fun e w' => e = .returned (.agg #[.int .i64 a, .int .i64 b]) ∧ Ext w w' := by
  have c1 := fun W => run_fl_int ha W
  have c2 := fun W => run_fl_int hb W
  generalize Fl a = A at *
  generalize Fl b = B at *
  go_enter Tryz.func54, Tryz.ntmps54
  go_wp2
  refine bodyPost_ret (v := .agg #[.int .i64 a, .int .i64 b]) (by simp [results, Tryz.results54, go_sem]) rfl ⟨rfl, ?_⟩
  repeat (first | exact Ext.refl _ | assumption | apply Ext.drew | apply Ext.alloc | (refine Ext.setCell ?_ (by simp <;> omega) _) | refine Ext.trans ?_ (by assumption))

theorem pKeepNo (bw ba bk bf br bt was : Nat) (h0 : was ≠ 0) (w : World) (cw : w.cell? ⟨bw, 0, none⟩ = some (.int .i64 was)) :
    Calls Tryz.prog 53 #[.pointer (some ⟨bw, 0, none⟩), .pointer (some ⟨ba, 0, none⟩), .pointer (some ⟨bk, 0, none⟩), .pointer (some ⟨bf, 0, none⟩), .pointer (some ⟨br, 0, none⟩), .pointer (some ⟨bt, 0, none⟩)] w fun e w' => e = .returned (.tuple #[]) ∧ w = w' := by
  have hne : ((was : Int) == 0) = false := beq_eq_false_iff_ne.2 (by omega)
  go_enter Tryz.func53, Tryz.ntmps53
  go_wp2
  exact bodyPost_end (v := .tuple #[]) (by simp [results, Tryz.results53, go_sem]) rfl ⟨rfl, rfl⟩

theorem c_sub {a b d : Nat} (ha : a < 2 ^ 53) (hb : b < 2 ^ 53) (hd : d ≤ b) : cSumBits .sub .f64 (Fl a) (Fl b) 0 (Fl d) = some (Fl a, Fl (b - d)) := by
  have h1 : floatBits .sub .f64 (Fl a) 0 = some (Fl a) := by
    have := fl_sub (a := a) (b := 0) ha (Nat.zero_le _)
    rw [fl_zero, Nat.sub_zero] at this; exact this
  have h2 : floatBits .sub .f64 (Fl b) (Fl d) = some (Fl (b - d)) := fl_sub hb hd
  unfold cSumBits
  rw [h1, h2]; rfl
theorem c_add {a b : Nat} (ha : a < 2 ^ 53) (hb : b + 1 < 2 ^ 53) : cSumBits .add .f64 (Fl a) (Fl b) 0 4607182418800017408 = some (Fl a, Fl (b + 1)) := by
  have e1 : Fl 1 = 4607182418800017408 := by decide
  have h1 : floatBits .add .f64 (Fl a) 0 = some (Fl a) := by
    have := fl_add (a := a) (b := 0) ha
    rw [fl_zero, Nat.add_zero] at this; exact this
  have h2 : floatBits .add .f64 (Fl b) (Fl 1) = some (Fl (b + 1)) := fl_add hb
  unfold cSumBits
  rw [← e1, h1, h2]; rfl

set_option maxRecDepth 100000 in
set_option maxHeartbeats 3200000 in
theorem pKeepYes (bw ba bk bf br bt ln col k f : Nat) (l : List UInt8) (b off cap : Nat) (rv : Value) (rb : Nat) (row : List Wd) (w : World)
    (hfk : f < k) (hkl : k ≤ l.length) (hl : l.length ≤ 900000) (hcap : l.length ≤ cap) (hln : ln ≤ 1000000) (hcol : col ≤ 1000000) (hd : k - f < col) (hrow : row.length ≤ 1000000)
    (cw : w.cell? ⟨bw, 0, none⟩ = some (.int .i64 0)) (ca : w.cell? ⟨ba, 0, none⟩ = some (.complex .f64 (Fl ln) (Fl col))) (ck : w.cell? ⟨bk, 0, none⟩ = some (.int .i64 k)) (cf : w.cell? ⟨bf, 0, none⟩ = some (.int .i64 f))
    (cr : w.cell? ⟨br, 0, none⟩ = some rv) (fr : w.frozen? ⟨br, 0, none⟩ = false) (ct : w.cell? ⟨bt, 0, none⟩ = some (.slice (some ⟨b, off, none⟩) l.length cap))
    (hc : ∀ i, i < l.length → w.cell? ⟨b, off + i, none⟩ = some (.int .u8 ((l.getD i 0).toNat : Int)))
    (hown : w.ownsRow rb 97 3 rv row.length (wdCells row)) (hrb : br < rb) (hbt : bt < rb) (hbf : bf < rb) (hbk : bk < rb) (ntr : bt ≠ br) (nfr : bf ≠ br) (nkr : bk ≠ br) (hrw : rb ≤ w.heap.size) :
    Calls Tryz.prog 53 #[.pointer (some ⟨bw, 0, none⟩), .pointer (some ⟨ba, 0, none⟩), .pointer (some ⟨bk, 0, none⟩), .pointer (some ⟨bf, 0, none⟩), .pointer (some ⟨br, 0, none⟩), .pointer (some ⟨bt, 0, none⟩)] w fun e w' => e = .returned (.tuple #[]) ∧
      ∃ rv', w'.cell? ⟨br, 0, none⟩ = some rv' ∧ w'.ownsRow rb 97 3 rv' (row ++ [Wd.mk ((l.drop f).take (k - f)) ln (col - (k - f))]).length (wdCells (row ++ [Wd.mk ((l.drop f).take (k - f)) ln (col - (k - f))])) ∧ w'.frozen? ⟨br, 0, none⟩ = false ∧
      But (fun x => x = br ∨ rv.ownBlock = some x) w w' := by
  obtain ⟨i0, hi, hz0, hz1, hz2⟩ := info_parts infoW
  have hT : ((l.drop f).take (k - f)).length = k - f := by rw [List.length_take, List.length_drop]; omega
  have hcv := fun (W : World) (hW : Ext w W) => conv_str (cap - f) (sub_bytes (fun i hi => hW.reads (hc i hi)) f k hkl)
  rw [hT] at hcv
  obtain ⟨T, eT⟩ : ∃ T, (l.drop f).take (k - f) = T := ⟨_, rfl⟩
  rw [eT] at hcv
  rw [eT]
  have hC := fun W => run_complex_sum (P := Tryz.prog) W .sub (Or.inr rfl) 108 .f64 _ _ _ _ _ _ (c_sub (a := ln) (b := col) (d := k - f) (by omega) (by omega) (by omega))
  have hP := pPlace ln (col - (k - f)) (by omega) (by omega)
  have hF : floatOfInt .f64 ((k : Int) - (f : Int)) = Fl (k - f) := by
    rw [show (k : Int) - (f : Int) = ((k - f : Nat) : Int) by omega]; exact fl_of_int _
  generalize Fl ln = A at *
  generalize Fl col = B at *
  generalize Fl (col - (k - f)) = C at *
  generalize Fl (k - f) = D at *
  clear hT eT hc
  obtain ⟨c, hcc⟩ : ∃ c : Nat, col - (k - f) = c := ⟨_, rfl⟩
  rw [hcc] at hP ⊢
  clear hcc
  go_enter Tryz.func53, Tryz.ntmps53
  go_wp2_with fail
  refine (hP _).mono ?_
  rintro e w1 ⟨rfl, hx⟩
  clear hP hC
  have cr1 := hx.reads cr
  have ct1 := hx.reads ct
  have ck1 := hx.reads ck
  have cf1 := hx.reads cf
  have fr1 := hx.free cr fr
  have hown1 := owns_ext hown hx
  clear hcol hd ca cw
  go_wp2
  obtain ⟨W, hW⟩ : ∃ W, w1.alloc (.cells #[.int .i64 ln, .int .i64 c] 57) = W := ⟨_, rfl⟩
  have p0 : W.cell? ⟨w1.heap.size, 0, none⟩ = some (.int .i64 ln) := by subst hW; go_simp
  have p1 : W.cell? ⟨w1.heap.size, 1, none⟩ = some (.int .i64 c) := by subst hW; go_simp
  have xW : Ext w W := by subst hW; exact hx.alloc _
  have hsz : w1.heap.size < W.heap.size := by subst hW; simp
  rw [hW]
  clear hW
  have cr1 := xW.reads cr
  have ct1 := xW.reads ct
  have ck1 := xW.reads ck
  have cf1 := xW.reads cf
  have fr1 := xW.free cr fr
  have hcv1 : (convert 22 9 (.slice (some ⟨b, off + f, none⟩) (k - f) (cap - f))).run Tryz.prog W.drew = .ok (.string (strOf T)) W.drew := hcv W.drew xW.drew
  have hown1 := owns_ext hown xW
  have hbr : br < W.heap.size := World.block_lt_of_cell? W _ cr1
  have hrw1 : rb ≤ W.heap.size := Nat.le_trans hrw xW.size
  have hlo : ∀ x, x < rb → rv.ownBlock ≠ some x := fun x hx h => by have := (hown1.lt x h).1; omega
  have hne : rv.ownBlock ≠ some br := hlo br hrb
  have npr : w1.heap.size ≠ br := by have := World.block_lt_of_cell? w _ cr; have := hx.size; simp at *; omega
  have hnp : rv.ownBlock ≠ some w1.heap.size := fun h => by have := (hown.lt _ h).2; have := hx.size; omega
  obtain ⟨WA, hWA⟩ : ∃ WA, (W.alloc (.cells #[.string (strOf T), .int .i64 ln, .int .i64 c] 97)).drew = WA := ⟨_, rfl⟩
  have xA : Ext W WA := by subst hWA; exact ((Ext.refl W).alloc _).drew
  have hownA := owns_ext hown1 xA
  have hnewA : ∀ j u, (wdCells [Wd.mk T ln c])[j]? = some u → WA.cell? ((⟨W.heap.size, 0, none⟩ : Addr).add j) = some u := by subst hWA; exact cells_new W (wdCells [Wd.mk T ln c]) _ _ rfl
  have crA := xA.reads cr1
  have frA := xA.free cr1 fr1
  have hrwA : rb ≤ WA.heap.size := Nat.le_trans hrw1 xA.size
  have hb1 : row.length + 1 ≤ maxLen := by unfold maxLen; omega
  have hb2 : (row.length + 1) * 32 ≤ 140737488355328 := by omega
  have hbrA : br < WA.heap.size := World.block_lt_of_cell? WA _ crA
  have hS0 : W.drew.cell? ⟨bt, 0, none⟩ = some (.slice (some ⟨b, off, none⟩) l.length cap) ∧ W.drew.cell? ⟨bf, 0, none⟩ = some (.int .i64 f) ∧ W.drew.cell? ⟨bk, 0, none⟩ = some (.int .i64 k) ∧
      W.drew.cell? ⟨w1.heap.size, 0, none⟩ = some (.int .i64 ln) ∧ W.drew.cell? ⟨w1.heap.size, 1, none⟩ = some (.int .i64 c) := ⟨ct1, cf1, ck1, p0, p1⟩
  have hSA : WA.cell? ⟨bt, 0, none⟩ = some (.slice (some ⟨b, off, none⟩) l.length cap) ∧ WA.cell? ⟨bf, 0, none⟩ = some (.int .i64 f) ∧ WA.cell? ⟨bk, 0, none⟩ = some (.int .i64 k) ∧
      WA.cell? ⟨w1.heap.size, 0, none⟩ = some (.int .i64 ln) ∧ WA.cell? ⟨w1.heap.size, 1, none⟩ = some (.int .i64 c) := ⟨xA.reads ct1, xA.reads cf1, xA.reads ck1, xA.reads p0, xA.reads p1⟩
  have hkc : k ≤ cap := by omega
  have hfk2 : f ≤ k := by omega
  have hcf : ¬ cap = f := by omega
  refine wp_region_held_drew (S := (fun w' => w'.cell? ⟨bt, 0, none⟩ = some (.slice (some ⟨b, off, none⟩) l.length cap) ∧ w'.cell? ⟨bf, 0, none⟩ = some (.int .i64 f) ∧ w'.cell? ⟨bk, 0, none⟩ = some (.int .i64 k) ∧
      w'.cell? ⟨w1.heap.size, 0, none⟩ = some (.int .i64 ln) ∧ w'.cell? ⟨w1.heap.size, 1, none⟩ = some (.int .i64 c))) (by kernel_rfl) hS0 (fun hHeld => ?_)
  refine wpAnyH_take (i := 1) (v := ?_) rfl (by kernel_rfl) (by kernel_rfl) (by kernel_rfl) (fun _ _ _ h => h) (Or.inl ⟨by rfl, ?_⟩) hHeld ?_
  rotate_left
  focus (intro w' hSw; (try dsimp only at hSw); go_simp; (try with_reducible rfl); done)
  (try simp only [Act.put, List.setIfInBounds_toArray, List.set_cons_zero, List.set_cons_succ])
  refine wpAnyH_take (i := 2) (v := ?_) rfl (by kernel_rfl) (by kernel_rfl) (by kernel_rfl) (fun _ _ _ h => h) (Or.inl ⟨by rfl, ?_⟩) hHeld ?_
  rotate_left
  focus (intro w' hSw; (try dsimp only at hSw); go_simp; (try with_reducible rfl); done)
  (try simp only [Act.put, List.setIfInBounds_toArray, List.set_cons_zero, List.set_cons_succ])
  refine wpAnyH_take (i := 3) (v := ?_) rfl (by kernel_rfl) (by kernel_rfl) (by kernel_rfl) (fun _ _ _ h => h) (Or.inl ⟨by rfl, ?_⟩) hHeld ?_
  rotate_left
  focus (intro w' hSw; (try dsimp only at hSw); go_simp; (try with_reducible rfl); done)
  (try simp only [Act.put, List.setIfInBounds_toArray, List.set_cons_zero, List.set_cons_succ])
  refine wpAnyH_take (i := 4) (v := ?_) rfl (by kernel_rfl) (by kernel_rfl) (by kernel_rfl) (fun _ _ _ h => h) (Or.inl ⟨by rfl, ?_⟩) hHeld ?_
  rotate_left
  focus (intro w' hSw; (try dsimp only at hSw); go_simp; (try with_reducible rfl); done)
  (try simp only [Act.put, List.setIfInBounds_toArray, List.set_cons_zero, List.set_cons_succ])
  refine wpAnyH_take (i := 6) (v := ?_) rfl (by kernel_rfl) (by kernel_rfl) (by kernel_rfl) (fun _ _ _ h => h) (Or.inl ⟨by rfl, ?_⟩) hHeld ?_
  rotate_left
  focus (intro w' hSw; (try dsimp only at hSw); go_simp; (try with_reducible rfl); done)
  (try simp only [Act.put, List.setIfInBounds_toArray, List.set_cons_zero, List.set_cons_succ])
  refine wpAnyH_take (i := 7) (v := ?_) rfl (by kernel_rfl) (by kernel_rfl) (by kernel_rfl) (fun _ _ _ h => h) (Or.inl ⟨by rfl, ?_⟩) hHeld ?_
  rotate_left
  focus (intro w' hSw; (try dsimp only at hSw); go_simp; (try with_reducible rfl); done)
  (try simp only [Act.put, List.setIfInBounds_toArray, List.set_cons_zero, List.set_cons_succ])
  refine wpAnyH_take (i := 8) (v := ?_) rfl (by kernel_rfl) (by kernel_rfl) (by kernel_rfl) (fun _ _ _ h => h) (Or.inl ⟨by rfl, ?_⟩) hHeld ?_
  rotate_left
  focus (intro w' hSw; (try dsimp only at hSw); go_simp; (try with_reducible rfl); done)
  (try simp only [Act.put, List.setIfInBounds_toArray, List.set_cons_zero, List.set_cons_succ])
  refine wpAnyH_take (i := 9) (v := ?_) rfl (by kernel_rfl) (by kernel_rfl) (by kernel_rfl) (fun _ _ _ h => h) (Or.inl ⟨by rfl, ?_⟩) hHeld ?_
  rotate_left
  focus (intro w' hSw; (try dsimp only at hSw); go_simp; (try with_reducible rfl); done)
  (try simp only [Act.put, List.setIfInBounds_toArray, List.set_cons_zero, List.set_cons_succ])
  refine wpAnyH_ready (rs := [0, 5]) (by kernel_rfl) (by simp) ?_
  refine AllReadyH.cons rfl (fun K hK => ?_) (AllReadyH.cons rfl (fun K hK => ?_) AllReadyH.nil) <;> (go_simp; refine hK.out _ _ (by first | exact hS0 | exact hSA | exact hS4 _ | (rw [hWA]; exact hSA) | assumption) (fun hHeld => ?_); clear hK K)
  focus
    (refine wpAnyH_ready (rs := [5]) (by kernel_rfl) (by simp) ?_; refine AllReadyH.cons rfl (fun K hK => ?_) AllReadyH.nil <;> (go_simp; refine hK.out _ _ (by first | exact hS0 | exact hSA | exact hS4 _ | (rw [hWA]; exact hSA) | assumption) (fun hHeld => ?_); clear hK K))
    (refine wpAnyH_take (i := 10) (v := ?_) rfl (by kernel_rfl) (by kernel_rfl) (by kernel_rfl) (fun _ _ _ h => h) (Or.inl ⟨by rfl, ?_⟩) hHeld ?_; rotate_left; focus (intro w' hSw; (try dsimp only at hSw); go_simp; (try with_reducible rfl); done); (try simp only [Act.put, List.setIfInBounds_toArray, List.set_cons_zero, List.set_cons_succ]))
    (refine wpAnyH_ready (rs := [11]) (by kernel_rfl) (by simp) ?_; refine AllReadyH.cons rfl (fun K hK => ?_) AllReadyH.nil <;> (go_simp; refine hK.out _ _ (by first | exact hS0 | exact hSA | exact hS4 _ | (rw [hWA]; exact hSA) | assumption) (fun hHeld => ?_); clear hK K))
  rotate_left
  focus
    (refine wpAnyH_take (i := 10) (v := ?_) rfl (by kernel_rfl) (by kernel_rfl) (by kernel_rfl) (fun _ _ _ h => h) (Or.inl ⟨by rfl, ?_⟩) hHeld ?_; rotate_left; focus (intro w' hSw; (try dsimp only at hSw); go_simp; (try with_reducible rfl); done); (try simp only [Act.put, List.setIfInBounds_toArray, List.set_cons_zero, List.set_cons_succ]))
    (refine wpAnyH_ready (rs := [0, 11]) (by kernel_rfl) (by simp) ?_; refine AllReadyH.cons rfl (fun K hK => ?_) (AllReadyH.cons rfl (fun K hK => ?_) AllReadyH.nil) <;> (go_simp; refine hK.out _ _ (by first | exact hS0 | exact hSA | exact hS4 _ | (rw [hWA]; exact hSA) | assumption) (fun hHeld => ?_); clear hK K))
    focus
      (refine wpAnyH_ready (rs := [11]) (by kernel_rfl) (by simp) ?_; refine AllReadyH.cons rfl (fun K hK => ?_) AllReadyH.nil <;> (go_simp; refine hK.out _ _ (by first | exact hS0 | exact hSA | exact hS4 _ | (rw [hWA]; exact hSA) | assumption) (fun hHeld => ?_); clear hK K))
    rotate_left
    focus
      (refine wpAnyH_ready (rs := [0]) (by kernel_rfl) (by simp) ?_; refine AllReadyH.cons rfl (fun K hK => ?_) AllReadyH.nil <;> (go_simp; refine hK.out _ _ (by first | exact hS0 | exact hSA | exact hS4 _ | (rw [hWA]; exact hSA) | assumption) (fun hHeld => ?_); clear hK K))
  all_goals
    refine wpAnyH_ready (rs := [12]) (by kernel_rfl) (by simp) ?_
    refine AllReadyH.cons rfl (fun K hK => ?_) AllReadyH.nil
    (try rw [hWA])
    refine step_append_lies _ rfl _ _ _ rfl rb 97 i0 _ 3 32 Tryz.underlying95 hi hz0 hz1 hz2 rfl (by decide) rv row.length (wdCells row) rfl hownA ⟨W.heap.size, 0, none⟩ 1 1 (wdCells [Wd.mk T ln c]) rfl rfl hnewA (wdCells_one _) (by decide) hb1 hb2 hrwA _ rfl ?_
    intro g cp w3 hown3 hgrow3 hat3 hlt3
    have cr3 : w3.cell? ⟨br, 0, none⟩ = some rv := hgrow3.cell crA (Ne.symm hne)
    have fr3 : w3.frozen? ⟨br, 0, none⟩ = false := (hgrow3.frozen_far _ hbrA (Ne.symm hne)).trans frA
    have hS3 : w3.cell? ⟨bt, 0, none⟩ = some (.slice (some ⟨b, off, none⟩) l.length cap) ∧ w3.cell? ⟨bf, 0, none⟩ = some (.int .i64 f) ∧ w3.cell? ⟨bk, 0, none⟩ = some (.int .i64 k) ∧
        w3.cell? ⟨w1.heap.size, 0, none⟩ = some (.int .i64 ln) ∧ w3.cell? ⟨w1.heap.size, 1, none⟩ = some (.int .i64 c) :=
      ⟨hgrow3.cell (xA.reads ct1) (Ne.symm (hlo _ hbt)), hgrow3.cell (xA.reads cf1) (Ne.symm (hlo _ hbf)), hgrow3.cell (xA.reads ck1) (Ne.symm (hlo _ hbk)), hgrow3.cell (xA.reads p0) (Ne.symm hnp), hgrow3.cell (xA.reads p1) (Ne.symm hnp)⟩
    have hS4 : ∀ u, (w3.setCell ⟨br, 0, none⟩ u).cell? ⟨bt, 0, none⟩ = some (.slice (some ⟨b, off, none⟩) l.length cap) ∧ (w3.setCell ⟨br, 0, none⟩ u).cell? ⟨bf, 0, none⟩ = some (.int .i64 f) ∧ (w3.setCell ⟨br, 0, none⟩ u).cell? ⟨bk, 0, none⟩ = some (.int .i64 k) ∧
        (w3.setCell ⟨br, 0, none⟩ u).cell? ⟨w1.heap.size, 0, none⟩ = some (.int .i64 ln) ∧ (w3.setCell ⟨br, 0, none⟩ u).cell? ⟨w1.heap.size, 1, none⟩ = some (.int .i64 c) := fun u => by
      obtain ⟨s1, s2, s3, s4, s5⟩ := hS3
      refine ⟨?_, ?_, ?_, ?_, ?_⟩
      · rw [World.cell?_setCell_other (h := fun e => ntr (congrArg Addr.block e).symm)]; exact s1
      · rw [World.cell?_setCell_other (h := fun e => nfr (congrArg Addr.block e).symm)]; exact s2
      · rw [World.cell?_setCell_other (h := fun e => nkr (congrArg Addr.block e).symm)]; exact s3
      · rw [World.cell?_setCell_other (h := fun e => npr (congrArg Addr.block e).symm)]; exact s4
      · rw [World.cell?_setCell_other (h := by simp)]; exact s5
    refine hK.out _ _ (by first | exact hS3 | assumption) (fun hHeld => ?_)
    clear hK K
    refine wpAnyH_ready (rs := [13]) (by kernel_rfl) (by simp) ?_
    refine AllReadyH.cons rfl (fun K hK => ?_) AllReadyH.nil
    go_simp
    refine hK.out _ _ (hS4 _) (fun hHeld => ?_)
    clear hK K
    refine wpAnyH_done (by kernel_rfl) ?_ _
  all_goals
    go_wp2
    refine bodyPost_end (v := .tuple #[]) (by simp [results, Tryz.results53, go_sem]) rfl ⟨rfl, ?_⟩
    refine ⟨_, World.cell?_setCell_same _ _ _ cr3, ?_, by simpa using fr3, ?_⟩
    · rw [List.length_append, wdCells_app]
      exact ((But.refl (fun x => x = br) w3).setCell rfl _).owns hown3 fun x hx hx2 => by have := (hown3.lt x hx).1; omega
    · refine But.setCell ?_ (.inl rfl) _
      refine But.grown (b := WA) ?_ hgrow3 fun x hx => .inr hx
      exact But.of_ext (xW.trans xA)

theorem infoLL : (Tryz.prog.info? 95).map (fun i => (i.zero, i.size, i.bytes)) = some (some (.slice none 0 0), 1, 24) := by kernel_rfl

theorem note_byte {r : Wd} {rest : List Wd} {s : ByteArray} (hs : strOf r.txt = s) (h0 : 0 < s.size) : isNote (r :: rest) = decide (s[0].toNat = 35) := by
  subst hs
  obtain ⟨txt, ln, col⟩ := r
  cases txt with
  | nil => exact absurd h0 (by simp [strOf, ByteArray.size])
  | cons c cs =>
    have h1 : ((strOf (c :: cs))[0]'h0) = c := by simp [strOf, ByteArray.getElem_eq_getElem_data]
    show decide ((c :: cs).head? = some 35) = decide (((strOf (c :: cs))[0]'h0).toNat = 35)
    rw [h1]
    simp
    constructor
    · rintro rfl; rfl
    · intro h; exact UInt8.toNat_inj.1 h

set_option maxRecDepth 100000 in
set_option maxHeartbeats 3200000 in
theorem pLay (br bo ob rb : Nat) (rv ov : Value) (row : List Wd) (vs : List Value) (ls : List (List Wd)) (w : World)
    (cr : w.cell? ⟨br, 0, none⟩ = some rv) (fr : w.frozen? ⟨br, 0, none⟩ = false) (co : w.cell? ⟨bo, 0, none⟩ = some ov) (fo : w.frozen? ⟨bo, 0, none⟩ = false) (nro : br ≠ bo)
    (hL : LinesO w ob ov vs ls) (hR : RowO w rb rv row) (hob : ob ≤ rb) (hbr : br < ob) (hbo : bo < ob) (hobw : ob ≤ w.heap.size) (hok : okW row) (hls : ls.length ≤ 1000000) :
    Calls Tryz.prog 55 #[.pointer (some ⟨br, 0, none⟩), .pointer (some ⟨bo, 0, none⟩)] w fun e w' => e = .returned (.tuple #[]) ∧
      w'.cell? ⟨br, 0, none⟩ = some (.slice none 0 0) ∧ w'.frozen? ⟨br, 0, none⟩ = false ∧ w'.frozen? ⟨bo, 0, none⟩ = false ∧ (∃ ov' vs', w'.cell? ⟨bo, 0, none⟩ = some ov' ∧ LinesO w' ob ov' vs' (ls ++ layW row)) ∧
      But (fun x => x = br ∨ x = bo ∨ ov.ownBlock = some x) w w' := by
  obtain ⟨i0, hi, hz0, hz1, hz2⟩ := info_parts infoLL
  have hnot : isNote row = true → Hid (∀ u : Value, LinesO (w.setCell ⟨br, 0, none⟩ u) ob ov vs (ls ++ layW row)) := fun h => Lib.hid fun u => by
    have e : layW row = [] := by unfold layW; rw [h]; rfl
    rw [e, List.append_nil]
    exact hL.but ((But.refl (fun x => x = br) w).setCell rfl _) (by rintro x rfl; exact hbr)
  have hfin : Hid (∀ u : Value, (w.setCell ⟨br, 0, none⟩ u).cell? ⟨bo, 0, none⟩ = some ov ∧ (w.setCell ⟨br, 0, none⟩ u).frozen? ⟨br, 0, none⟩ = false ∧ (w.setCell ⟨br, 0, none⟩ u).frozen? ⟨bo, 0, none⟩ = false ∧ But (fun x => x = br ∨ x = bo ∨ ov.ownBlock = some x) w (w.setCell ⟨br, 0, none⟩ u)) :=
    Lib.hid fun u => ⟨by rw [World.cell?_setCell_other (h := fun e => nro (congrArg Addr.block e))]; exact co, by simpa using fr, by simpa using fo, (But.refl _ w).setCell (.inl rfl) _⟩
  by_cases hrn : row = []
  · subst hrn
    obtain ⟨ra, rcap, rfl⟩ := own_slice hR
    have cr : w.cell? ⟨br, 0, none⟩ = some (.slice ra 0 rcap) := cr
    have hN := hnot rfl
    clear hnot
    go_enter Tryz.func55, Tryz.ntmps55
    go_wp2
    refine bodyPost_end (v := .tuple #[]) (by simp [results, Tryz.results55, go_sem]) rfl ⟨rfl, World.cell?_setCell_same _ _ _ cr, ?_⟩
    obtain ⟨h1, h2, h3, h4⟩ := hfin.out (.slice none 0 0)
    exact ⟨h2, h3, ⟨_, _, h1, hN.out _⟩, h4⟩
  obtain ⟨r, rest, rfl⟩ : ∃ r rest, row = r :: rest := by
    cases row with
    | nil => exact absurd rfl hrn
    | cons r rest => exact ⟨r, rest, rfl⟩
  obtain ⟨g, cp, rfl, hn1, hn2, hcell⟩ := RowAt.cells (owns_mono hR (Nat.zero_le _)) hrn
  have h0 : 0 < (r :: rest).length := by simp
  have c0 := (hcell 0 h0).1
  have hr0 : (r :: rest).getD 0 noWd = r := rfl
  rw [hr0] at c0
  obtain ⟨s, es⟩ : ∃ s, strOf r.txt = s := ⟨_, rfl⟩
  have hs0 : 0 < s.size := by
    have := hok r (by simp)
    rw [← es, ← bs_length, bs_strOf]
    exact Nat.pos_of_ne_zero fun h => this (List.eq_nil_of_length_eq_zero h)
  have hnb := note_byte (rest := rest) es hs0
  rw [es] at c0
  obtain ⟨q, hq⟩ : ∃ q : Nat, s[0].toNat = q := ⟨_, rfl⟩
  rw [hq] at hnb
  obtain ⟨n, hn⟩ : ∃ n, (r :: rest).length = n := ⟨_, rfl⟩
  have c0 : w.cell? ⟨g, 0, none⟩ = some (.string s) := by simpa using c0
  have hRh := Lib.hid hR
  rw [hn] at cr h0 hn1 hRh
  have hnr := hRh
  by_cases h35 : q = 35
  · have hN := hnot (by rw [hnb]; simp [h35])
    subst h35
    clear hnot hnb hcell hR hRh hnr
    go_enter Tryz.func55, Tryz.ntmps55
    go_wp2
    refine bodyPost_end (v := .tuple #[]) (by simp [results, Tryz.results55, go_sem]) rfl ⟨rfl, World.cell?_setCell_same _ _ _ cr, ?_⟩
    obtain ⟨h1, h2, h3, h4⟩ := hfin.out (.slice none 0 0)
    exact ⟨h2, h3, ⟨_, _, h1, hN.out _⟩, h4⟩
  · have hN : isNote (r :: rest) = false := by rw [hnb]; simp [h35]
    have h35' : ((q : Int) == 35) = false := beq_eq_false_iff_ne.2 (by omega)
    have e : layW (r :: rest) = [r :: rest] := by unfold layW; rw [hN]; rfl
    rw [e]
    have hR' : Hid (RowO w ob (.slice (some ⟨g, 0, none⟩) n cp) (r :: rest)) := Lib.hid (by have := owns_mono hRh.out hob; exact this)
    have hLL := Lib.hid hL
    have hown := hL.2.1
    have hno : ∀ x, x < ob → ov.ownBlock ≠ some x := fun x hx h => by have := (hown.lt x h).1; omega
    have hbrs : br < w.heap.size := by omega
    have hbos : bo < w.heap.size := by omega
    clear hnot hnb hcell hR hN e hRh hnr hL
    go_enter Tryz.func55, Tryz.ntmps55
    go_wp2_with (at_builtin; refine wpList_append_own _ rfl _ _ 85 rfl ob 95 i0 _ 1 24 Tryz.underlying85 hi hz0 hz1 hz2 rfl (by decide) _ _ _ rfl (hown.alloc _) ⟨w.heap.size, 0, none⟩ 1 1 [.slice (some ⟨g, 0, none⟩) n cp] rfl rfl ?c1 ?c2 ?c3 ?c4 ?c5 ?_)
    case c1 => first | exact cells_new _ _ _ _ (by simp) | (intro q u h; simpa using h)
    case c2 => simp [Value.oneCell']
    case c3 => unfold maxLen; omega
    try (case c4 => omega)
    case c5 => simp; omega
    intro v' w3 hown3 hgrow3 _
    obtain ⟨va, vcap, rfl⟩ := own_slice hown3
    have hO3 := Lib.hid (hLL.out.app hR'.out hgrow3 hown3)
    have cr3 : w3.cell? ⟨br, 0, none⟩ = some (.slice (some ⟨g, 0, none⟩) n cp) := hgrow3.cell (((Ext.refl w).alloc _).reads cr) (Ne.symm (hno br hbr))
    have co3 : w3.cell? ⟨bo, 0, none⟩ = some ov := hgrow3.cell (((Ext.refl w).alloc _).reads co) (Ne.symm (hno bo hbo))
    have fr3 : w3.frozen? ⟨br, 0, none⟩ = false := (hgrow3.frozen_far _ (by simp; omega) (Ne.symm (hno br hbr))).trans (((Ext.refl w).alloc _).free cr fr)
    have fo3 : w3.frozen? ⟨bo, 0, none⟩ = false := (hgrow3.frozen_far _ (by simp; omega) (Ne.symm (hno bo hbo))).trans (((Ext.refl w).alloc _).free co fo)
    have hB3 : But (fun x => x = br ∨ x = bo ∨ ov.ownBlock = some x) w w3 := ((But.refl _ w).alloc _).grown hgrow3 fun k hk => .inr (.inr hk)
    clear hown3 hgrow3
    have hne : (⟨br, 0, none⟩ : Addr) ≠ ⟨bo, 0, none⟩ := fun e => nro (congrArg Addr.block e)
    have cr4 : (w3.setCell ⟨bo, 0, none⟩ (.slice va (ls.length + 1) vcap)).cell? ⟨br, 0, none⟩ = some (.slice (some ⟨g, 0, none⟩) n cp) := by rw [World.cell?_setCell_other (h := Ne.symm hne)]; exact cr3
    have fr4 : (w3.setCell ⟨bo, 0, none⟩ (.slice va (ls.length + 1) vcap)).frozen? ⟨br, 0, none⟩ = false := by simpa using fr3
    go_wp2
    refine bodyPost_end (v := .tuple #[]) (by simp [results, Tryz.results55, go_sem]) rfl ⟨rfl, World.cell?_setCell_same _ _ _ cr4, by simpa using fr3, by simpa using fo3, ⟨.slice va (ls.length + 1) vcap, vs ++ [.slice (some ⟨g, 0, none⟩) n cp], ?_, ?_⟩, ?_⟩
    · rw [World.cell?_setCell_other (h := hne)]; exact World.cell?_setCell_same _ _ _ co3
    · refine hO3.out.but (S := fun x => x = br ∨ x = bo) (((But.refl _ w3).setCell (.inr rfl) _).setCell (.inl rfl) _) ?_
      rintro x (rfl | rfl)
      · exact hbr
      · exact hbo
    · exact (hB3.setCell (.inr (.inl rfl)) _).setCell (.inl rfl) _

end Go.Proofs.YtdgcgpapcbjfhaaGreatDoor

/- Words of a text, by the program: all lines. -/
namespace Go.Proofs.YtdgcgpapcbjfhaaGreatDoor
open Go.RowKit

/-- the variables of words.Split -/
structure SBx (H : Nat) (tv : Value) (wr : World) (ov rv : Value) (fr k n col was : Nat) : Prop where
  c0 : wr.cell? ⟨H, 0, none⟩ = some tv
  c1 : wr.cell? ⟨H + 1, 0, none⟩ = some (.int .i64 0)
  d1 : wr.cell? ⟨H + 1, 1, none⟩ = some (.int .i64 0)
  c2 : wr.cell? ⟨H + 2, 0, none⟩ = some ov
  c3 : wr.cell? ⟨H + 3, 0, none⟩ = some rv
  c4 : wr.cell? ⟨H + 4, 0, none⟩ = some (.int .i64 fr)
  c5 : wr.cell? ⟨H + 5, 0, none⟩ = some (.int .i64 k)
  c6 : wr.cell? ⟨H + 6, 0, none⟩ = some (.complex .f64 (Fl n) (Fl col))
  c7 : wr.cell? ⟨H + 7, 0, none⟩ = some (.int .i64 was)
  f1 : wr.frozen? ⟨H + 1, 0, none⟩ = false
  e1 : wr.frozen? ⟨H + 1, 1, none⟩ = false
  f2 : wr.frozen? ⟨H + 2, 0, none⟩ = false
  f3 : wr.frozen? ⟨H + 3, 0, none⟩ = false
  f4 : wr.frozen? ⟨H + 4, 0, none⟩ = false
  f5 : wr.frozen? ⟨H + 5, 0, none⟩ = false
  f6 : wr.frozen? ⟨H + 6, 0, none⟩ = false
  f7 : wr.frozen? ⟨H + 7, 0, none⟩ = false

theorem SBx.but {S : Nat → Prop} {H : Nat} {tv : Value} {wr w' : World} {ov rv ov' rv' : Value} {fr k n col was : Nat} (h : SBx H tv wr ov rv fr k n col was) (hb : But S wr w')
    (hs : ∀ x, S x → x = H + 2 ∨ x = H + 3 ∨ H + 8 ≤ x) (h2 : w'.cell? ⟨H + 2, 0, none⟩ = some ov') (h3 : w'.cell? ⟨H + 3, 0, none⟩ = some rv') (g2 : w'.frozen? ⟨H + 2, 0, none⟩ = false) (g3 : w'.frozen? ⟨H + 3, 0, none⟩ = false) :
    SBx H tv w' ov' rv' fr k n col was := by
  have no : ∀ i, i ≠ 2 → i ≠ 3 → i < 8 → ¬ S (H + i) := fun i a b c hh => by have := hs _ hh; omega
  exact ⟨hb.cell h.c0 (no 0 (by omega) (by omega) (by omega)), hb.cell h.c1 (no 1 (by omega) (by omega) (by omega)), hb.cell h.d1 (no 1 (by omega) (by omega) (by omega)), h2, h3,
    hb.cell h.c4 (no 4 (by omega) (by omega) (by omega)), hb.cell h.c5 (no 5 (by omega) (by omega) (by omega)), hb.cell h.c6 (no 6 (by omega) (by omega) (by omega)), hb.cell h.c7 (no 7 (by omega) (by omega) (by omega)),
    hb.free h.c1 (no 1 (by omega) (by omega) (by omega)) h.f1, hb.free h.d1 (no 1 (by omega) (by omega) (by omega)) h.e1, g2, g3,
    hb.free h.c4 (no 4 (by omega) (by omega) (by omega)) h.f4, hb.free h.c5 (no 5 (by omega) (by omega) (by omega)) h.f5, hb.free h.c6 (no 6 (by omega) (by omega) (by omega)) h.f6, hb.free h.c7 (no 7 (by omega) (by omega) (by omega)) h.f7⟩

theorem set_ne {H i j : Nat} (h : i ≠ j) : (⟨H + i, 0, none⟩ : Addr) ≠ ⟨H + j, 0, none⟩ := fun e => by have := congrArg Addr.block e; simp at this; omega

/-- what is known between two bytes -/
structure SIn (l : List UInt8) (b off cap H : Nat) (w : World) (wr : World) (ov rv : Value) (fr k n col was rb : Nat) (vs : List Value) (ls : List (List Wd)) (ws : List Wd) : Prop where
  bx : SBx H (.slice (some ⟨b, off, none⟩) l.length cap) wr ov rv fr k n col was
  lo : LinesO wr (H + 8) ov vs ls
  ro : RowO wr rb rv ws
  hb : H + 8 ≤ rb
  hr : rb ≤ wr.heap.size
  ap : ∀ i, i < ls.length → ∀ x, (vs.getD i undef).ownBlock = some x → x < rb
  ex : Ext w wr
  hh : H = w.heap.size

theorem owned_lines_but {S : Nat → Prop} {wr w' : World} {base : Nat} {ov : Value} {vs : List Value} {ls : List (List Wd)} (h : LinesO wr base ov vs ls) (hb : But S wr w')
    (ho : ∀ x, ov.ownBlock = some x → ¬ S x) (hr : ∀ i, i < ls.length → ∀ x, (vs.getD i undef).ownBlock = some x → ¬ S x) : LinesO w' base ov vs ls :=
  ⟨h.1, hb.owns h.2.1 ho, fun i hi => hb.owns (h.2.2 i hi) (hr i hi)⟩

/-- keep -/
theorem pKeep {l : List UInt8} {b off cap H : Nat} {w wr : World} {ov rv : Value} {fr k n col was rb fl : Nat} {vs : List Value} {ls : List (List Wd)} {ws : List Wd} {o : Option Nat}
    (h : SIn l b off cap H w wr ov rv fr k n col was rb vs ls ws) (hkl : k ≤ l.length) (hl : l.length ≤ 900000) (hcap : l.length ≤ cap) (hn : n ≤ 1000000) (hcol : col = k - fl + 1) (hfl : fl ≤ k)
    (ho : (o = none ∧ was ≠ 0) ∨ (∃ i, o = some i ∧ was = 0 ∧ fr = fl + i)) (hlt : ∀ i, o = some i → i < k - fl) (hws : ws.length ≤ k)
    (hc : ∀ i, i < l.length → w.cell? ⟨b, off + i, none⟩ = some (.int .u8 ((l.getD i 0).toNat : Int))) :
    Calls Tryz.prog 53 #[.pointer (some ⟨H + 7, 0, none⟩), .pointer (some ⟨H + 6, 0, none⟩), .pointer (some ⟨H + 5, 0, none⟩), .pointer (some ⟨H + 4, 0, none⟩), .pointer (some ⟨H + 3, 0, none⟩), .pointer (some ⟨H, 0, none⟩)] wr fun e w' =>
      e = .returned (.tuple #[]) ∧ ∃ rv', SIn l b off cap H w w' ov rv' fr k n col was rb vs ls (flushW (l.drop fl) n (k - fl) (ws, o)) := by
  rcases ho with ⟨rfl, h0⟩ | ⟨i, rfl, rfl, rfl⟩
  · refine (pKeepNo (H + 7) (H + 6) (H + 5) (H + 4) (H + 3) H was h0 wr h.bx.c7).mono ?_
    rintro e w' ⟨rfl, rfl⟩
    exact ⟨rfl, rv, h⟩
  · have hik := hlt i rfl
    have := h.hb
    refine (pKeepYes (H + 7) (H + 6) (H + 5) (H + 4) (H + 3) H n col k (fl + i) l b off cap rv rb ws wr (by omega) hkl hl hcap (by omega) (by omega) (by omega) (by omega)
      h.bx.c7 h.bx.c6 h.bx.c5 h.bx.c4 h.bx.c3 h.bx.f3 h.bx.c0 (fun i hi => h.ex.reads (hc i hi)) h.ro (by omega) (by omega) (by omega) (by omega) (by omega) (by omega) (by omega) h.hr).mono ?_
    rintro e w' ⟨rfl, rv', c3, ro, f3, hb⟩
    have e1 : ((l.drop (fl + i)).take (k - (fl + i))) = ((l.drop fl).drop i).take (k - fl - i) := by rw [List.drop_drop, show k - (fl + i) = k - fl - i by omega]
    have e2 : col - (k - (fl + i)) = i + 1 := by omega
    rw [e1, e2] at ro
    have hge : ∀ x, rv.ownBlock = some x → rb ≤ x := fun x hx => (h.ro.lt x hx).1
    have hS : ∀ x, (x = H + 3 ∨ rv.ownBlock = some x) → x = H + 2 ∨ x = H + 3 ∨ H + 8 ≤ x := by
      rintro x (rfl | hx)
      · exact .inr (.inl rfl)
      · have := hge x hx; exact .inr (.inr (by omega))
    refine ⟨rfl, rv', ⟨?_, ?_, ro, h.hb, Nat.le_trans h.hr hb.size, h.ap, ?_, h.hh⟩⟩
    · refine h.bx.but hb hS (hb.cell h.bx.c2 ?_) c3 (hb.free h.bx.c2 ?_ h.bx.f2) f3
      all_goals
        rintro (hx | hx)
        · simp at hx
        · have := hge (H + 2) hx; omega
    · refine owned_lines_but h.lo hb (fun x hx => ?_) (fun i hi x hx => ?_)
      · rintro (rfl | h2)
        · have := (h.lo.2.1.lt _ hx).1; omega
        · exact owns_apart h.lo.2.1 h.ro (by decide) x hx h2
      · rintro (rfl | h2)
        · have := ((h.lo.2.2 i hi).lt _ hx).1; omega
        · have := hge _ h2; have := h.ap i hi x hx; omega
    · refine hb.ext h.ex fun x hx => ?_
      have := hS x hx; have := h.hh
      omega

/-- lay -/
theorem pLayS {l : List UInt8} {b off cap H : Nat} {w wr : World} {ov rv : Value} {fr k n col was rb : Nat} {vs : List Value} {ls : List (List Wd)} {ws : List Wd}
    (h : SIn l b off cap H w wr ov rv fr k n col was rb vs ls ws) (hok : okW ws) (hls : ls.length ≤ 1000000) :
    Calls Tryz.prog 55 #[.pointer (some ⟨H + 3, 0, none⟩), .pointer (some ⟨H + 2, 0, none⟩)] wr fun e w' =>
      e = .returned (.tuple #[]) ∧ ∃ ov' vs', SIn l b off cap H w w' ov' (.slice none 0 0) fr k n col was w'.heap.size vs' (ls ++ layW ws) [] := by
  have := h.hb
  refine (pLay (H + 3) (H + 2) (H + 8) rb rv ov ws vs ls wr h.bx.c3 h.bx.f3 h.bx.c2 h.bx.f2 (by omega) h.lo h.ro h.hb (by omega) (by omega) (Nat.le_trans h.hb h.hr) hok hls).mono ?_
  rintro e w' ⟨rfl, c3, f3, f2, ⟨ov', vs', c2, lo⟩, hb⟩
  have hge : ∀ x, ov.ownBlock = some x → H + 8 ≤ x := fun x hx => (h.lo.2.1.lt x hx).1
  have hS : ∀ x, (x = H + 3 ∨ x = H + 2 ∨ ov.ownBlock = some x) → x = H + 2 ∨ x = H + 3 ∨ H + 8 ≤ x := by
    rintro x (rfl | rfl | hx)
    · exact .inr (.inl rfl)
    · exact .inl rfl
    · exact .inr (.inr (hge x hx))
  refine ⟨rfl, ov', vs', ⟨h.bx.but hb hS c2 c3 f2 f3, lo, World.ownsRow_nil _ _ _ _, Nat.le_trans (Nat.le_trans h.hb h.hr) hb.size, Nat.le_refl _, fun i hi x hx => ((lo.2.2 i hi).lt x hx).2, ?_, h.hh⟩⟩
  refine hb.ext h.ex fun x hx => ?_
  have := hS x hx; have := h.hh
  omega

theorem SBx.set4 {H : Nat} {tv : Value} {wr : World} {ov rv : Value} {fr k n col was : Nat} (h : SBx H tv wr ov rv fr k n col was) {v : Int} {fr' : Nat} (hv : v = (fr' : Int)) : SBx H tv (wr.setCell ⟨H + 4, 0, none⟩ (.int .i64 v)) ov rv fr' k n col was := by
  exact ⟨by rw [World.cell?_setCell_other (h := fun e => by have := congrArg Addr.block e; simp at this)]; exact h.c0, by rw [World.cell?_setCell_other (h := fun e => by have := congrArg Addr.block e; simp at this)]; exact h.c1, by rw [World.cell?_setCell_other (h := fun e => by have := congrArg Addr.block e; simp at this)]; exact h.d1, by rw [World.cell?_setCell_other (h := fun e => by have := congrArg Addr.block e; simp at this)]; exact h.c2, by rw [World.cell?_setCell_other (h := fun e => by have := congrArg Addr.block e; simp at this)]; exact h.c3, by rw [← hv]; exact World.cell?_setCell_same _ _ _ h.c4, by rw [World.cell?_setCell_other (h := fun e => by have := congrArg Addr.block e; simp at this)]; exact h.c5, by rw [World.cell?_setCell_other (h := fun e => by have := congrArg Addr.block e; simp at this)]; exact h.c6, by rw [World.cell?_setCell_other (h := fun e => by have := congrArg Addr.block e; simp at this)]; exact h.c7, by simpa using h.f1, by simpa using h.e1, by simpa using h.f2, by simpa using h.f3, by simpa using h.f4, by simpa using h.f5, by simpa using h.f6, by simpa using h.f7⟩
theorem SBx.set5 {H : Nat} {tv : Value} {wr : World} {ov rv : Value} {fr k n col was : Nat} (h : SBx H tv wr ov rv fr k n col was) {v : Int} {k' : Nat} (hv : v = (k' : Int)) : SBx H tv (wr.setCell ⟨H + 5, 0, none⟩ (.int .i64 v)) ov rv fr k' n col was := by
  exact ⟨by rw [World.cell?_setCell_other (h := fun e => by have := congrArg Addr.block e; simp at this)]; exact h.c0, by rw [World.cell?_setCell_other (h := fun e => by have := congrArg Addr.block e; simp at this)]; exact h.c1, by rw [World.cell?_setCell_other (h := fun e => by have := congrArg Addr.block e; simp at this)]; exact h.d1, by rw [World.cell?_setCell_other (h := fun e => by have := congrArg Addr.block e; simp at this)]; exact h.c2, by rw [World.cell?_setCell_other (h := fun e => by have := congrArg Addr.block e; simp at this)]; exact h.c3, by rw [World.cell?_setCell_other (h := fun e => by have := congrArg Addr.block e; simp at this)]; exact h.c4, by rw [← hv]; exact World.cell?_setCell_same _ _ _ h.c5, by rw [World.cell?_setCell_other (h := fun e => by have := congrArg Addr.block e; simp at this)]; exact h.c6, by rw [World.cell?_setCell_other (h := fun e => by have := congrArg Addr.block e; simp at this)]; exact h.c7, by simpa using h.f1, by simpa using h.e1, by simpa using h.f2, by simpa using h.f3, by simpa using h.f4, by simpa using h.f5, by simpa using h.f6, by simpa using h.f7⟩
theorem SBx.set6 {H : Nat} {tv : Value} {wr : World} {ov rv : Value} {fr k n col was : Nat} (h : SBx H tv wr ov rv fr k n col was) (n' col' : Nat) : SBx H tv (wr.setCell ⟨H + 6, 0, none⟩ (.complex .f64 (Fl n') (Fl col'))) ov rv fr k n' col' was := by
  exact ⟨by rw [World.cell?_setCell_other (h := fun e => by have := congrArg Addr.block e; simp at this)]; exact h.c0, by rw [World.cell?_setCell_other (h := fun e => by have := congrArg Addr.block e; simp at this)]; exact h.c1, by rw [World.cell?_setCell_other (h := fun e => by have := congrArg Addr.block e; simp at this)]; exact h.d1, by rw [World.cell?_setCell_other (h := fun e => by have := congrArg Addr.block e; simp at this)]; exact h.c2, by rw [World.cell?_setCell_other (h := fun e => by have := congrArg Addr.block e; simp at this)]; exact h.c3, by rw [World.cell?_setCell_other (h := fun e => by have := congrArg Addr.block e; simp at this)]; exact h.c4, by rw [World.cell?_setCell_other (h := fun e => by have := congrArg Addr.block e; simp at this)]; exact h.c5, World.cell?_setCell_same _ _ _ h.c6, by rw [World.cell?_setCell_other (h := fun e => by have := congrArg Addr.block e; simp at this)]; exact h.c7, by simpa using h.f1, by simpa using h.e1, by simpa using h.f2, by simpa using h.f3, by simpa using h.f4, by simpa using h.f5, by simpa using h.f6, by simpa using h.f7⟩
theorem SBx.set7 {H : Nat} {tv : Value} {wr : World} {ov rv : Value} {fr k n col was : Nat} (h : SBx H tv wr ov rv fr k n col was) (was' : Nat) : SBx H tv (wr.setCell ⟨H + 7, 0, none⟩ (.int .i64 was')) ov rv fr k n col was' := by
  exact ⟨by rw [World.cell?_setCell_other (h := fun e => by have := congrArg Addr.block e; simp at this)]; exact h.c0, by rw [World.cell?_setCell_other (h := fun e => by have := congrArg Addr.block e; simp at this)]; exact h.c1, by rw [World.cell?_setCell_other (h := fun e => by have := congrArg Addr.block e; simp at this)]; exact h.d1, by rw [World.cell?_setCell_other (h := fun e => by have := congrArg Addr.block e; simp at this)]; exact h.c2, by rw [World.cell?_setCell_other (h := fun e => by have := congrArg Addr.block e; simp at this)]; exact h.c3, by rw [World.cell?_setCell_other (h := fun e => by have := congrArg Addr.block e; simp at this)]; exact h.c4, by rw [World.cell?_setCell_other (h := fun e => by have := congrArg Addr.block e; simp at this)]; exact h.c5, by rw [World.cell?_setCell_other (h := fun e => by have := congrArg Addr.block e; simp at this)]; exact h.c6, World.cell?_setCell_same _ _ _ h.c7, by simpa using h.f1, by simpa using h.e1, by simpa using h.f2, by simpa using h.f3, by simpa using h.f4, by simpa using h.f5, by simpa using h.f6, by simpa using h.f7⟩

theorem SIn.set {l : List UInt8} {b off cap H : Nat} {w wr : World} {ov rv : Value} {fr k n col was rb : Nat} {vs : List Value} {ls : List (List Wd)} {ws : List Wd} {j : Nat} {v : Value} {fr' k' n' col' was' : Nat}
    (h : SIn l b off cap H w wr ov rv fr k n col was rb vs ls ws) (hj : j < 8) (hb : SBx H (.slice (some ⟨b, off, none⟩) l.length cap) (wr.setCell ⟨H + j, 0, none⟩ v) ov rv fr' k' n' col' was') :
    SIn l b off cap H w (wr.setCell ⟨H + j, 0, none⟩ v) ov rv fr' k' n' col' was' rb vs ls ws := by
  have hB : But (fun x => x = H + j) wr (wr.setCell ⟨H + j, 0, none⟩ v) := (But.refl (fun x => x = H + j) wr).setCell (p := ⟨H + j, 0, none⟩) rfl v
  have := h.hb
  exact ⟨hb, h.lo.but hB (by rintro x rfl; omega), hB.owns h.ro (fun x hx hx2 => by have := (h.ro.lt x hx).1; omega), h.hb, Nat.le_trans h.hr hB.size, h.ap, hB.ext h.ex (by rintro x rfl; have := h.hh; omega), h.hh⟩

/-- between two bytes: what has been read -/
def pInv (l : List UInt8) (k : Nat) (ls : List (List Wd)) (n fl : Nat) (ws : List Wd) (o : Option Nat) (fr was : Nat) : Prop :=
  k ≤ l.length ∧ rst l k = (ls, n, fl) ∧ clean l k ∧ lsc (l.drop fl) n (k - fl) = (ws, o) ∧ ((o = none ∧ was ≠ 0) ∨ (∃ i, o = some i ∧ was = 0 ∧ fr = fl + i))

theorem pInv_zero (l : List UInt8) : pInv l 0 [] 1 0 [] none 0 1 := ⟨Nat.zero_le _, rfl, clean_zero l, rfl, .inl ⟨rfl, by decide⟩⟩
theorem pInv_bounds {l : List UInt8} {k : Nat} {ls : List (List Wd)} {n fl : Nat} {ws : List Wd} {o : Option Nat} {fr was : Nat} (h : pInv l k ls n fl ws o fr was) :
    fl ≤ k ∧ n ≤ k + 1 ∧ ls.length ≤ k ∧ ws.length ≤ k ∧ okW (flushW (l.drop fl) n (k - fl) (ws, o)) ∧ (∀ i, o = some i → i < k - fl) := by
  obtain ⟨h1, h2, h3, h4, h5⟩ := h
  obtain ⟨r1, r2, r3, r4, _⟩ := rst_props l k h1
  rw [h2] at r1 r3 r4
  have r1 : fl ≤ k := r1
  have hl := lsc_len (l.drop fl) n (k - fl)
  have hlt := lsc_lt (l.drop fl) n (k - fl)
  have hok := lineW_ok (t := l.drop fl) (n := n) (j := k - fl) (by simp; omega)
  unfold lineW at hok
  rw [h4] at hl hlt hok
  have hl : ws.length ≤ k - fl := hl
  exact ⟨r1, r3, r4, by omega, hok, hlt⟩
theorem getD_drop (l : List UInt8) (fl k : Nat) (h : fl ≤ k) : (l.drop fl).getD (k - fl) 0 = l.getD k 0 := by simp [List.getD]; rw [show fl + (k - fl) = k by omega]

/-- a visible byte -/
theorem pInv_vis {l : List UInt8} {k : Nat} {ls : List (List Wd)} {n fl : Nat} {ws : List Wd} {o : Option Nat} {fr was : Nat} (h : pInv l k ls n fl ws o fr was) (hk : k < l.length) (hv : wKind (l.getD k 0) = 0) :
    ∃ o', pInv l (k + 1) ls n fl ws o' (if was = 0 then fr else k) 0 := by
  have hb := (pInv_bounds h).1
  obtain ⟨h1, h2, h3, h4, h5⟩ := h
  have hg : l.getD k 0 ≠ 10 := fun e => by rw [e] at hv; cases hv
  have e : k + 1 - fl = (k - fl) + 1 := by omega
  refine ⟨some (o.getD (k - fl)), hk, by rw [rst_go hg]; exact h2, clean_succ h3 (by rw [hv]; decide), by rw [e]; exact lsc_vis h4 (by rw [getD_drop l fl k hb]; exact hv), .inr ⟨_, rfl, rfl, ?_⟩⟩
  rcases h5 with ⟨rfl, h0⟩ | ⟨i, rfl, rfl, rfl⟩
  · rw [if_neg h0]; simp; omega
  · rw [if_pos rfl]; rfl
/-- a blank -/
theorem pInv_blank {l : List UInt8} {k : Nat} {ls : List (List Wd)} {n fl : Nat} {ws : List Wd} {o : Option Nat} {fr was : Nat} (h : pInv l k ls n fl ws o fr was) (hk : k < l.length) (hv : wKind (l.getD k 0) = 1) :
    pInv l (k + 1) ls n fl (flushW (l.drop fl) n (k - fl) (ws, o)) none fr 1 := by
  have hb := (pInv_bounds h).1
  obtain ⟨h1, h2, h3, h4, h5⟩ := h
  have hg : l.getD k 0 ≠ 10 := fun e => by rw [e] at hv; cases hv
  have e : k + 1 - fl = (k - fl) + 1 := by omega
  exact ⟨hk, by rw [rst_go hg]; exact h2, clean_succ h3 (by rw [hv]; decide), by rw [e]; exact lsc_inv h4 (by rw [getD_drop l fl k hb, hv]; decide), .inl ⟨rfl, by decide⟩⟩
/-- the end of a line -/
theorem pInv_end {l : List UInt8} {k : Nat} {ls : List (List Wd)} {n fl : Nat} {ws : List Wd} {o : Option Nat} {fr was : Nat} (h : pInv l k ls n fl ws o fr was) (hk : k < l.length) (hv : l.getD k 0 = 10) :
    pInv l (k + 1) (ls ++ layW (flushW (l.drop fl) n (k - fl) (ws, o))) (n + 1) (k + 1) [] none fr 2 := by
  have hb := (pInv_bounds h).1
  obtain ⟨h1, h2, h3, h4, h5⟩ := h
  refine ⟨hk, ?_, clean_succ h3 (by rw [hv]; decide), by rw [Nat.sub_self]; rfl, .inl ⟨rfl, by decide⟩⟩
  rw [rst_end hv]; unfold spAll lineW; rw [h2]; simp only; rw [h4]
theorem pInv_last {l : List UInt8} {ls : List (List Wd)} {n fl : Nat} {ws : List Wd} {o : Option Nat} {fr was : Nat} (h : pInv l l.length ls n fl ws o fr was) :
    spE l = 0 ∧ spLn l = 0 ∧ spCol l = 0 ∧ spLines l = ls ++ layW (flushW (l.drop fl) n (l.length - fl) (ws, o)) := by
  obtain ⟨h1, h2, h3, h4, h5⟩ := h
  obtain ⟨g1, g2, g3, g4⟩ := sp_good h3
  refine ⟨g1, g2, g3, ?_⟩
  rw [g4]; unfold spAll lineW; rw [h2]; simp only; rw [h4]
theorem pInv_bad {l : List UInt8} {k : Nat} {ls : List (List Wd)} {n fl : Nat} {ws : List Wd} {o : Option Nat} {fr was : Nat} (h : pInv l k ls n fl ws o fr was) (hk : k < l.length) (hv : wKind (l.getD k 0) = 3) :
    spE l = 20 ∧ spLn l = n ∧ spCol l = ((k - fl + 1 : Nat) : Int) ∧ spLines l = [] := by
  obtain ⟨h1, h2, h3, h4, h5⟩ := h
  have := sp_bad h3 hk hv
  rw [h2] at this
  exact this

end Go.Proofs.YtdgcgpapcbjfhaaGreatDoor
