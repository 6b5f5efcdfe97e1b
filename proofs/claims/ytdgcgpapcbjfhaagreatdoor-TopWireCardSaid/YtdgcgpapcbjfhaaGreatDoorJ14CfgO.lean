/- A text of rules, by the reference: one line. -/
import Derived.Test.YtdgcgpapcbjfhaaGreatDoorJ08Srt
import Derived.Test.YtdgcgpapcbjfhaaGreatDoorJ13RuleRW
import Derived.Laws.AppendOwnNone
import Derived.Test.YtdgcgpapcbjfhaaGreatDoorJ12SplitR
set_option linter.unusedVariables false
set_option linter.unusedSimpArgs false

/- A text of rules, by the reference: its parts. -/
namespace Go.Proofs.YtdgcgpapcbjfhaaGreatDoor
open Go.RowKit

def rlCells : List Rl → List Value
  | [] => []
  | r :: rs => .string (strOf r.pre) :: .int .u64 r.ev :: .int .u64 r.bu :: .int .u8 (r.kd : Int) :: rlCells rs
theorem rlCells_len : ∀ rs : List Rl, (rlCells rs).length = rs.length * 4
  | [] => rfl
  | r :: rs => by simp [rlCells, rlCells_len rs]; omega
theorem rlCells_app : ∀ (a b : List Rl), rlCells (a ++ b) = rlCells a ++ rlCells b
  | [], b => rfl
  | r :: rs, b => by simp [rlCells, rlCells_app rs b]
theorem rlCells_get : ∀ (rs : List Rl) (i : Nat), i < rs.length → (rlCells rs)[i * 4]? = some (.string (strOf (rs.getD i Rl0).pre)) ∧ (rlCells rs)[i * 4 + 1]? = some (.int .u64 (rs.getD i Rl0).ev) ∧
    (rlCells rs)[i * 4 + 2]? = some (.int .u64 (rs.getD i Rl0).bu) ∧ (rlCells rs)[i * 4 + 3]? = some (.int .u8 ((rs.getD i Rl0).kd : Int))
  | [], i, h => by simp at h
  | r :: rs, 0, h => by simp [rlCells]
  | r :: rs, i + 1, h => by
    have := rlCells_get rs i (by simpa using h)
    rw [show (i + 1) * 4 = i * 4 + 4 by omega]
    simpa [rlCells] using this
theorem rlCells_one (rs : List Rl) : ∀ u ∈ rlCells rs, u.oneCell' = true := by
  induction rs with
  | nil => simp [rlCells]
  | cons r rs ih =>
    intro u hu
    simp [rlCells] at hu
    rcases hu with rfl | rfl | rfl | rfl | hu
    · rfl
    · rfl
    · rfl
    · rfl
    · exact ih u hu

/-- rules in memory -/
def RulesAt (w : World) (v : Value) (rs : List Rl) : Prop := (rs = [] → v = .slice none 0 0) ∧ w.ownsRow 0 47 4 v rs.length (rlCells rs)
theorem RulesAt.ext {w w' : World} {v : Value} {rs : List Rl} (h : RulesAt w v rs) (hx : Ext w w') : RulesAt w' v rs := ⟨h.1, owns_ext h.2 hx⟩
theorem RulesAt.nil (w : World) : RulesAt w (.slice none 0 0) [] := ⟨fun _ => rfl, World.ownsRow_nil _ _ _ _⟩
theorem RulesAt.form {w : World} {v : Value} {rs : List Rl} (h : RulesAt w v rs) : ∃ a cp, v = .slice a rs.length cp ∧ (rs ≠ [] → ∃ g, a = some ⟨g, 0, none⟩ ∧ g < w.heap.size ∧ rs.length ≤ cp ∧ cp ≤ maxLen) := by
  rcases h.2.2 with ⟨hv, hn⟩ | ⟨g, cp, cur, hv, _, hh, hnc, hcm, _, _⟩
  · refine ⟨none, 0, by rw [hv, hn], fun hne => absurd (List.eq_nil_of_length_eq_zero hn) hne⟩
  · exact ⟨_, cp, hv, fun _ => ⟨g, rfl, (Array.getElem?_eq_some_iff.1 hh).1, hnc, hcm⟩⟩
theorem RulesAt.cells {w : World} {g cp : Nat} {rs : List Rl} (h : RulesAt w (.slice (some ⟨g, 0, none⟩) rs.length cp) rs) {i : Nat} (hi : i < rs.length) :
    w.cell? ⟨g, i * 4, none⟩ = some (.string (strOf (rs.getD i Rl0).pre)) ∧ w.cell? ⟨g, i * 4 + 1, none⟩ = some (.int .u64 (rs.getD i Rl0).ev) ∧ w.cell? ⟨g, i * 4 + 2, none⟩ = some (.int .u64 (rs.getD i Rl0).bu) ∧ w.cell? ⟨g, i * 4 + 3, none⟩ = some (.int .u8 ((rs.getD i Rl0).kd : Int)) := by
  have hA := World.ownsRow.cellAt h.2
  obtain ⟨h0, h1, h2, h3⟩ := rlCells_get rs i hi
  refine ⟨?_, ?_, ?_, ?_⟩
  · rw [hA _ (by omega)]; exact h0
  · rw [hA _ (by omega)]; exact h1
  · rw [hA _ (by omega)]; exact h2
  · rw [hA _ (by omega)]; exact h3

theorem strEq (a b : List UInt8) : ((strOf a).toList == (strOf b).toList) = decide (a = b) := by
  rw [toList_bs, toList_bs, bs_strOf, bs_strOf, Bool.eq_iff_iff, beq_iff_eq, decide_eq_true_iff]

theorem take_snocR (l : List Rl) (k : Nat) (h : k < l.length) : l.take (k + 1) = l.take k ++ [l.getD k Rl0] := by
  rw [List.take_succ_eq_append_getElem h, getD_lt _ _ _ h]

theorem hasP_take {rs : List Rl} {p : List UInt8} {k : Nat} (hk : k < rs.length) (h : hasP (rs.take k) p = false) (h2 : decide ((rs.getD k Rl0).pre = p) = false) : hasP (rs.take (k + 1)) p = false := by
  unfold hasP at *
  rw [take_snocR rs k hk, List.any_append, h]
  simpa using h2

theorem rFind (rs : List Rl) (v : Value) (p : List UInt8) (hn : rs.length ≤ 1000000) (w : World) (h : RulesAt w v rs) :
    Calls Tryz.prog 41 #[v, .string (strOf p)] w fun e w' => ∃ r : Int, e = .returned (.int .i64 r) ∧ (0 ≤ r ↔ hasP rs p = true) ∧ w = w' := by
  obtain ⟨a, cp, rfl, hf⟩ := h.form
  have hH := Lib.hid h
  have hF := Lib.hid hf
  clear h hf
  go_enter Tryz.func41, Tryz.ntmps41
  go_wp2
  go_loop [5] (fun i => ∃ k : Nat, k ≤ rs.length ∧ i = .int .i64 k ∧ Hid (hasP (rs.take k) p = false)) (fun i => rs.length - (intOf i).toNat)
  case atStart => exact ⟨0, Nat.zero_le _, rfl, Lib.hid rfl⟩
  case round =>
    obtain ⟨k, hk, rfl, hI⟩ := hrel
    by_cases hlt : k < rs.length
    · obtain ⟨g, ea, hgs, hcp, hcm⟩ := hF.out (by rintro rfl; simp at hlt)
      have hc0 := (RulesAt.cells (by rw [← ea]; exact hH.out) hlt).1
      have hB := strEq (rs.getD k Rl0).pre p
      have hT := Lib.hid (fun h => hasP_take hlt hI.out h)
      have hY : Hid (decide ((rs.getD k Rl0).pre = p) = true → hasP rs p = true) := Lib.hid (fun h => by
        unfold hasP; rw [List.any_eq_true]
        exact ⟨_, by rw [getD_lt _ _ _ hlt]; exact List.getElem_mem hlt, h⟩)
      clear hI
      subst ea
      generalize decide ((rs.getD k Rl0).pre = p) = B at *
      generalize strOf (rs.getD k Rl0).pre = S1 at *
      generalize strOf p = S2 at *
      cases B
      · have hN := Lib.hid (hT.out rfl)
        clear hT hY
        go_wp2
        go_round
        case rel => exact ⟨k + 1, by omega, by go_num, hN⟩
        case measure => (simp [intOf]) <;> omega
      · have hN := Lib.hid (hY.out rfl)
        clear hT hY
        go_wp2
        go_ret
        exact ⟨_, rfl, ⟨fun _ => hN.out, fun _ => by omega⟩, rfl⟩
    · obtain rfl : k = rs.length := by omega
      have hN : Hid (hasP rs p = false) := Lib.hid (by have := hI.out; rwa [List.take_length] at this)
      clear hI
      go_wp2
      go_ret
      exact ⟨_, rfl, ⟨fun h => absurd h (by decide), fun h => by rw [hN.out] at h; cases h⟩, rfl⟩

def plV (most : Nat) (v : Value) : Value := .agg #[.int .i64 most, v]

theorem ret_pl {m m' : Nat} {v : Value} {a b a' b' : Int} (h : m = m') (h1 : a = a') (h2 : b = b') : Ending.returned (.tuple #[plV m v, .int .i64 a, .int .i64 b]) = .returned (.tuple #[plV m' v, .int .i64 a', .int .i64 b']) := by rw [h, h1, h2]

theorem cSize {p : Pl} {ts : List (List UInt8)} (h : ts.getD 0 [] = sSize) : cOne p ts = (if ts.length ≠ 2 then (p, 22, 0) else if 0 < p.most then (p, 28, 0) else if dE (ts.getD 1 []) ≠ 0 then (p, dE (ts.getD 1 []), 1)
     else if dV (ts.getD 1 []) < 1 ∨ 1000000 < dV (ts.getD 1 []) then (p, 29, 1) else (⟨(dV (ts.getD 1 [])).toNat, p.rules⟩, 0, 0)) := by unfold cOne; rw [if_pos h]

theorem ret_one {q : Pl × Int × Int} {m : Nat} {v : Value} {x y : Int} (h : q.1.most = m) (h1 : q.2.1 = x) (h2 : q.2.2 = y) : Ending.returned (.tuple #[plV m v, .int .i64 x, .int .i64 y]) = .returned (.tuple #[plV q.1.most v, .int .i64 q.2.1, .int .i64 q.2.2]) := by rw [h, h1, h2]

set_option maxRecDepth 100000 in
set_option maxHeartbeats 1600000 in
theorem rSize (p : Pl) (a : Option Addr) (n vc : Nat) (ts : List (List UInt8)) (g cp : Nat) (hne : 0 < ts.length) (hcp : ts.length ≤ cp) (hl : ∀ i, (ts.getD i []).length ≤ 1000000) (hm : p.most ≤ 1000000) (h0 : ts.getD 0 [] = sSize) (w : World) (hc : StrsAt w g ts) :
    Calls Tryz.prog 65 #[plV p.most (.slice a n vc), .slice (some ⟨g, 0, none⟩) ts.length cp] w fun e w' => e = .returned (.tuple #[plV (cOne p ts).1.most (.slice a n vc), .int .i64 (cOne p ts).2.1, .int .i64 (cOne p ts).2.2]) ∧ Ext w w' := by
  have hQ := cSize (p := p) h0
  unfold plV
  by_cases h2 : ts.length = 2
  · rw [if_neg (by omega)] at hQ
    by_cases hpm : 0 < p.most
    · rw [if_pos hpm] at hQ
      have hR : Hid (Ending.returned (.tuple #[plV p.most (.slice a n vc), .int .i64 28, .int .i64 0]) = _) := Lib.hid (ret_one (q := cOne p ts) (by rw [hQ]) (by rw [hQ]) (by rw [hQ]))
      rw [h2] at hcp ⊢
      generalize cOne p ts = Q at *
      generalize p.most = M at *
      clear hQ hc hl h0
      go_enter Tryz.func65, Tryz.ntmps65
      go_wp2
      refine bodyPost_ret (v := .tuple #[plV M (.slice a n vc), .int .i64 28, .int .i64 0]) (by simp [results, Tryz.results65, go_sem, plV]) rfl ⟨?_, ?_⟩
      · exact hR.out
      · repeat (first | exact Ext.refl _ | assumption | apply Ext.drew | apply Ext.alloc | (refine Ext.setCell ?_ (by simp <;> omega) _) | refine Ext.trans ?_ (by assumption))
    · rw [if_neg hpm] at hQ
      have hM : p.most = 0 := by omega
      have c1 := hc 1 (by omega)
      have hgs : g < w.heap.size := World.block_lt_of_cell? w _ c1
      have hD := rParse (strOf (ts.getD 1 [])) (by rw [← bs_length, bs_strOf]; unfold maxLen; have := hl 1; omega)
      rw [bs_strOf] at hD
      obtain ⟨hv0, hv1⟩ := dV_U (ts.getD 1 [])
      rw [h2] at hcp ⊢
      by_cases he : dE (ts.getD 1 []) = 0
      · rw [if_neg (fun h => h he)] at hQ
        rw [he] at hD
        by_cases hv : dV (ts.getD 1 []) < 1 ∨ 1000000 < dV (ts.getD 1 [])
        · rw [if_pos hv] at hQ
          have hR : Hid (Ending.returned (.tuple #[plV p.most (.slice a n vc), .int .i64 29, .int .i64 1]) = _) := Lib.hid (ret_one (q := cOne p ts) (by rw [hQ]) (by rw [hQ]) (by rw [hQ]))
          generalize cOne p ts = Q at *
          clear hQ
          rw [hM] at hR ⊢
          generalize dV (ts.getD 1 []) = V at *
          generalize strOf (ts.getD 1 []) = S at *
          clear hc hl h0
          by_cases hva : V < 1
          · go_enter Tryz.func65, Tryz.ntmps65
            go_wp2_with fail
            refine (hD _).mono ?_
            rintro e w1 ⟨rfl, rfl⟩
            go_wp2
            refine bodyPost_ret (v := .tuple #[plV 0 (.slice a n vc), .int .i64 29, .int .i64 1]) (by simp [results, Tryz.results65, go_sem, plV]) rfl ⟨?_, ?_⟩
            · exact hR.out
            · repeat (first | exact Ext.refl _ | assumption | apply Ext.drew | apply Ext.alloc | (refine Ext.setCell ?_ (by simp <;> omega) _) | refine Ext.trans ?_ (by assumption))
          · have hvb : 1000000 < V := by omega
            go_enter Tryz.func65, Tryz.ntmps65
            go_wp2_with fail
            refine (hD _).mono ?_
            rintro e w1 ⟨rfl, rfl⟩
            go_wp2
            refine bodyPost_ret (v := .tuple #[plV 0 (.slice a n vc), .int .i64 29, .int .i64 1]) (by simp [results, Tryz.results65, go_sem, plV]) rfl ⟨?_, ?_⟩
            · exact hR.out
            · repeat (first | exact Ext.refl _ | assumption | apply Ext.drew | apply Ext.alloc | (refine Ext.setCell ?_ (by simp <;> omega) _) | refine Ext.trans ?_ (by assumption))
        · rw [if_neg hv] at hQ
          have hVn : ((dV (ts.getD 1 [])).toNat : Int) = dV (ts.getD 1 []) := Int.toNat_of_nonneg hv0
          have hR : Hid (Ending.returned (.tuple #[plV (dV (ts.getD 1 [])).toNat (.slice a n vc), .int .i64 0, .int .i64 0]) = _) := Lib.hid (ret_one (q := cOne p ts) (by rw [hQ]) (by rw [hQ]) (by rw [hQ]))
          generalize cOne p ts = Q at *
          clear hQ
          rw [hM]
          unfold plV at hR
          rw [hVn] at hR
          generalize dV (ts.getD 1 []) = V at *
          generalize strOf (ts.getD 1 []) = S at *
          clear hc hl h0 hVn
          have hva : ¬ V < 1 := by omega
          have hvb : ¬ 1000000 < V := by omega
          go_enter Tryz.func65, Tryz.ntmps65
          go_wp2_with fail
          refine (hD _).mono ?_
          rintro e w1 ⟨rfl, rfl⟩
          go_wp2
          refine bodyPost_ret (v := .tuple #[.agg #[.int .i64 V, .slice a n vc], .int .i64 0, .int .i64 0]) (by simp [results, Tryz.results65, go_sem, plV]) rfl ⟨?_, ?_⟩
          · exact hR.out
          · repeat (first | exact Ext.refl _ | assumption | apply Ext.drew | apply Ext.alloc | (refine Ext.setCell ?_ (by simp <;> omega) _) | refine Ext.trans ?_ (by assumption))
      · rw [if_pos he] at hQ
        have hR : Hid (Ending.returned (.tuple #[plV p.most (.slice a n vc), .int .i64 (dE (ts.getD 1 [])), .int .i64 1]) = _) := Lib.hid (ret_one (q := cOne p ts) (by rw [hQ]) (by rw [hQ]) (by rw [hQ]))
        generalize cOne p ts = Q at *
        clear hQ
        rw [hM] at hR ⊢
        generalize dV (ts.getD 1 []) = V at *
        generalize dE (ts.getD 1 []) = E at *
        generalize strOf (ts.getD 1 []) = S at *
        clear hc hl h0
        have he' : (E != 0) = true := by simp [he]
        go_enter Tryz.func65, Tryz.ntmps65
        go_wp2_with fail
        refine (hD _).mono ?_
        rintro e w1 ⟨rfl, rfl⟩
        go_wp2
        refine bodyPost_ret (v := .tuple #[plV 0 (.slice a n vc), .int .i64 E, .int .i64 1]) (by simp [results, Tryz.results65, go_sem, plV]) rfl ⟨?_, ?_⟩
        · exact hR.out
        · repeat (first | exact Ext.refl _ | assumption | apply Ext.drew | apply Ext.alloc | (refine Ext.setCell ?_ (by simp <;> omega) _) | refine Ext.trans ?_ (by assumption))
  · rw [if_pos h2] at hQ
    have hR : Hid (Ending.returned (.tuple #[plV p.most (.slice a n vc), .int .i64 22, .int .i64 0]) = _) := Lib.hid (ret_one (q := cOne p ts) (by rw [hQ]) (by rw [hQ]) (by rw [hQ]))
    generalize cOne p ts = Q at *
    generalize p.most = M at *
    clear hQ hc hl h0
    generalize ts.length = N at *
    have h2' : ¬ (N : Int) = 2 := by omega
    go_enter Tryz.func65, Tryz.ntmps65
    go_wp2
    refine bodyPost_ret (v := .tuple #[plV M (.slice a n vc), .int .i64 22, .int .i64 0]) (by simp [results, Tryz.results65, go_sem, plV]) rfl ⟨?_, ?_⟩
    · exact hR.out
    · repeat (first | exact Ext.refl _ | assumption | apply Ext.drew | apply Ext.alloc | (refine Ext.setCell ?_ (by simp <;> omega) _) | refine Ext.trans ?_ (by assumption))

end Go.Proofs.YtdgcgpapcbjfhaaGreatDoor

/- A text of rules, by the reference: one line. -/
namespace Go.Proofs.YtdgcgpapcbjfhaaGreatDoor
open Go.RowKit

theorem cRule1 {p : Pl} {ts : List (List UInt8)} (h : ts.getD 0 [] ≠ sSize) (he : (rpar ts).2.1 ≠ 0) : cOne p ts = (p, (rpar ts).2.1, (rpar ts).2.2) := by unfold cOne; rw [if_neg h, if_pos he]
theorem cRule2 {p : Pl} {ts : List (List UInt8)} (h : ts.getD 0 [] ≠ sSize) (he : (rpar ts).2.1 = 0) (hp : hasP p.rules (rpar ts).1.pre = true) : cOne p ts = (p, 28, if (rpar ts).1.pre = [] then 0 else 1) := by
  unfold cOne; rw [if_neg h, if_neg (fun hh => hh he), if_pos hp]
theorem cRule3 {p : Pl} {ts : List (List UInt8)} (h : ts.getD 0 [] ≠ sSize) (he : (rpar ts).2.1 = 0) (hp : hasP p.rules (rpar ts).1.pre = false) (hl : 1000 ≤ p.rules.length) : cOne p ts = (p, 32, 0) := by
  unfold cOne; rw [if_neg h, if_neg (fun hh => hh he), hp, if_neg (by simp), if_pos hl]
theorem cRule4 {p : Pl} {ts : List (List UInt8)} (h : ts.getD 0 [] ≠ sSize) (he : (rpar ts).2.1 = 0) (hp : hasP p.rules (rpar ts).1.pre = false) (hl : ¬ 1000 ≤ p.rules.length) : cOne p ts = (⟨p.most, p.rules ++ [(rpar ts).1]⟩, 0, 0) := by
  unfold cOne; rw [if_neg h, if_neg (fun hh => hh he), hp, if_neg (by simp), if_neg hl]

theorem infoRl : (Tryz.prog.info? 47).map (fun i => (i.zero, i.size, i.bytes)) = some (some (.agg #[.string ⟨#[]⟩, .int .u64 0, .int .u64 0, .int .u8 0]), 4, 40) := by kernel_rfl

theorem ret_one' {q : Pl × Int × Int} {m : Nat} {v : Value} {x y : Int} (h : q.1.most = m) (h1 : q.2.1 = x) (h2 : q.2.2 = y) : Ending.returned (.tuple #[plV m v, .int .i64 x, .int .i64 y]) = .returned (.tuple #[plV q.1.most v, .int .i64 q.2.1, .int .i64 q.2.2]) := by rw [h, h1, h2]

set_option maxRecDepth 100000 in
set_option maxHeartbeats 3200000 in
theorem rOne (p : Pl) (v : Value) (ts : List (List UInt8)) (g cp : Nat) (hne : 0 < ts.length) (hcp : ts.length ≤ cp) (hl : ∀ i, (ts.getD i []).length ≤ 1000000) (hok : okP p) (w : World) (hc : StrsAt w g ts) (hv : RulesAt w v p.rules) :
    Calls Tryz.prog 40 #[plV p.most v, .slice (some ⟨g, 0, none⟩) ts.length cp] w fun e w' => ∃ v', e = .returned (.tuple #[plV (cOne p ts).1.most v', .int .i64 (cOne p ts).2.1, .int .i64 (cOne p ts).2.2]) ∧ RulesAt w' v' (cOne p ts).1.rules ∧ Ext w w' := by
  obtain ⟨a, vc, rfl, hvf⟩ := hv.form
  have c0 := hc 0 hne
  have hgs : g < w.heap.size := World.block_lt_of_cell? w _ c0
  have hc0 := strOf_eq (ts.getD 0 []) sSize
  by_cases h0 : ts.getD 0 [] = sSize
  · have hS := fun W (hx : Ext w W) => rSize p a p.rules.length vc ts g cp hne hcp hl hok.1 h0 W (hc.ext hx)
    rw [decide_eq_true h0] at hc0
    have hr : (cOne p ts).1.rules = p.rules := by rw [cSize h0]; (repeat' split) <;> rfl
    have hV := Lib.hid (hr ▸ hv : RulesAt w (.slice a p.rules.length vc) (cOne p ts).1.rules)
    generalize strOf (ts.getD 0 []) = S0 at *
    have hL := hne
    generalize ts.length = L at *
    generalize cOne p ts = Q at *
    obtain ⟨⟨QM, QR⟩, QE, QA⟩ := Q
    clear hc h0 hr hv
    generalize p.rules.length = n at *
    unfold plV at hS ⊢
    simp only at hS hV ⊢
    have hc0 : (S0.toList == [115, 105, 122, 101]) = true := hc0
    go_enter Tryz.func40, Tryz.ntmps40
    go_wp2_with fail
    refine (hS _ ?hx).mono ?_
    case hx => repeat (first | exact Ext.refl _ | assumption | apply Ext.drew | apply Ext.alloc | (refine Ext.setCell ?_ (by simp <;> omega) _) | refine Ext.trans ?_ (by assumption))
    rintro e w1 ⟨rfl, hx⟩
    clear hS
    have hx1 : Ext w w1 := hx.past.past
    have b0 : w1.cell? ⟨w.heap.size + 1, 0, none⟩ = some (.int .i64 0) := hx.reads (by go_simp)
    have b1 : w1.cell? ⟨w.heap.size + 1, 1, none⟩ = some (.slice none 0 0) := hx.reads (by go_simp)
    have g0 : w1.frozen? ⟨w.heap.size + 1, 0, none⟩ = false := hx.free (v := .int .i64 0) (by go_simp) (by go_simp)
    have g1 : w1.frozen? ⟨w.heap.size + 1, 1, none⟩ = false := hx.free (v := .slice none 0 0) (by go_simp) (by go_simp)
    have hs1 : w.heap.size + 1 < w1.heap.size := World.block_lt_of_cell? w1 _ b0
    clear hx
    go_wp2
    refine bodyPost_ret (v := .tuple #[.agg #[.int .i64 QM, .slice a n vc], .int .i64 QE, .int .i64 QA]) (by simp [results, Tryz.results40, go_sem, b0, b1, hs1]) rfl ⟨.slice a n vc, rfl, ?_, ?_⟩
    · exact hV.out.ext (by repeat (first | exact Ext.refl _ | assumption | apply Ext.drew | apply Ext.alloc | (refine Ext.setCell ?_ (by simp <;> omega) _) | refine Ext.trans ?_ (by assumption)))
    · repeat (first | exact Ext.refl _ | assumption | apply Ext.drew | apply Ext.alloc | (refine Ext.setCell ?_ (by simp <;> omega) _) | refine Ext.trans ?_ (by assumption))
  · have hRul := fun W (hx : Ext w W) => rRule ts g cp hcp hl W (hc.ext hx)
    have hat := rpar_at ts hne
    rw [decide_eq_false h0] at hc0
    have hc0 : ((strOf (ts.getD 0 [])).toList == [115, 105, 122, 101]) = false := hc0
    have hFi := fun W (hx : Ext w W) => rFind p.rules _ (rpar ts).1.pre (by have := hok.2.1; omega) W (hv.ext hx)
    unfold rlV at hRul
    by_cases he : (rpar ts).2.1 = 0
    · rw [he] at hRul
      by_cases hp : hasP p.rules (rpar ts).1.pre = true
      · have hQ := cRule2 (p := p) h0 he hp
        rw [hp] at hFi
        have hpe := strOf_eq (rpar ts).1.pre []
        by_cases hpn : (rpar ts).1.pre = []
        · rw [if_pos hpn] at hQ
          rw [decide_eq_true hpn] at hpe
          have hR : Hid (Ending.returned (.tuple #[plV p.most (.slice a p.rules.length vc), .int .i64 28, .int .i64 0]) = .returned (.tuple #[plV (cOne p ts).1.most (.slice a p.rules.length vc), .int .i64 (cOne p ts).2.1, .int .i64 (cOne p ts).2.2])) := Lib.hid (ret_one' (by rw [hQ]) (by rw [hQ]) (by rw [hQ]))
          have hV : Hid (RulesAt w (.slice a p.rules.length vc) (cOne p ts).1.rules) := Lib.hid (by rw [hQ]; exact hv)
          clear hl h0 he hp hpn hat
          generalize rpar ts = RP at *
          obtain ⟨⟨RPp, RPe, RPb, RPk⟩, RPx, RPy⟩ := RP
          simp only at hRul hFi hpe
          generalize strOf RPp = PS at *
          clear hQ hc hv hvf hok
          generalize cOne p ts = Q at *
          generalize strOf (ts.getD 0 []) = S0 at *
          obtain ⟨M, eM⟩ : ∃ M, p.most = M := ⟨_, rfl⟩
          rw [eM] at hR ⊢
          clear eM
          generalize p.rules.length = n at *
          generalize ts.length = L at *
          unfold plV
          go_enter Tryz.func40, Tryz.ntmps40
          go_wp2_with fail
          refine (hRul _ ?hx).mono ?_
          case hx => repeat (first | exact Ext.refl _ | assumption | apply Ext.drew | apply Ext.alloc | (refine Ext.setCell ?_ (by simp <;> omega) _) | refine Ext.trans ?_ (by assumption))
          rintro e w1 ⟨rfl, hx⟩
          clear hRul
          have hx1 : Ext w w1 := hx.past.past
          have a0 : w1.cell? ⟨w.heap.size, 0, none⟩ = some (.int .i64 M) := hx.reads (by go_simp)
          have a1 : w1.cell? ⟨w.heap.size, 1, none⟩ = some (.slice a n vc) := hx.reads (by go_simp)
          have b0 : w1.cell? ⟨w.heap.size + 1, 0, none⟩ = some (.int .i64 0) := hx.reads (by go_simp)
          have b1 : w1.cell? ⟨w.heap.size + 1, 1, none⟩ = some (.slice none 0 0) := hx.reads (by go_simp)
          have f1 : w1.frozen? ⟨w.heap.size, 1, none⟩ = false := hx.free (v := .slice a n vc) (by go_simp) (by go_simp)
          have g0 : w1.frozen? ⟨w.heap.size + 1, 0, none⟩ = false := hx.free (v := .int .i64 0) (by go_simp) (by go_simp)
          have g1 : w1.frozen? ⟨w.heap.size + 1, 1, none⟩ = false := hx.free (v := .slice none 0 0) (by go_simp) (by go_simp)
          have hs1 : w.heap.size + 1 < w1.heap.size := World.block_lt_of_cell? w1 _ b0
          have hs0 : w.heap.size < w1.heap.size := by omega
          clear hx
          go_wp2_with fail
          refine (hFi _ ?hx2).mono ?_
          case hx2 => repeat (first | exact Ext.refl _ | assumption | apply Ext.drew | apply Ext.alloc | (refine Ext.setCell ?_ (by simp <;> omega) _) | refine Ext.trans ?_ (by assumption))
          rintro e w2 ⟨r0, rfl, hr0, rfl⟩
          clear hFi
          have hr0 : 0 ≤ r0 := hr0.2 (by simp)
          go_wp2
          refine bodyPost_ret (v := .tuple #[plV M (.slice a n vc), .int .i64 28, .int .i64 0]) (by simp [results, Tryz.results40, go_sem, plV, b0, b1, hs1]) rfl ⟨.slice a n vc, hR.out, ?_, ?_⟩
          · exact hV.out.ext (by repeat (first | exact Ext.refl _ | assumption | apply Ext.drew | apply Ext.alloc | (refine Ext.setCell ?_ (by simp <;> omega) _) | refine Ext.trans ?_ (by assumption)))
          · repeat (first | exact Ext.refl _ | assumption | apply Ext.drew | apply Ext.alloc | (refine Ext.setCell ?_ (by simp <;> omega) _) | refine Ext.trans ?_ (by assumption))
        · rw [if_neg hpn] at hQ
          rw [decide_eq_false hpn] at hpe
          have hR : Hid (Ending.returned (.tuple #[plV p.most (.slice a p.rules.length vc), .int .i64 28, .int .i64 1]) = .returned (.tuple #[plV (cOne p ts).1.most (.slice a p.rules.length vc), .int .i64 (cOne p ts).2.1, .int .i64 (cOne p ts).2.2])) := Lib.hid (ret_one' (by rw [hQ]) (by rw [hQ]) (by rw [hQ]))
          have hV : Hid (RulesAt w (.slice a p.rules.length vc) (cOne p ts).1.rules) := Lib.hid (by rw [hQ]; exact hv)
          clear hl h0 he hp hpn hat
          generalize rpar ts = RP at *
          obtain ⟨⟨RPp, RPe, RPb, RPk⟩, RPx, RPy⟩ := RP
          simp only at hRul hFi hpe
          generalize strOf RPp = PS at *
          clear hQ hc hv hvf hok
          generalize cOne p ts = Q at *
          generalize strOf (ts.getD 0 []) = S0 at *
          obtain ⟨M, eM⟩ : ∃ M, p.most = M := ⟨_, rfl⟩
          rw [eM] at hR ⊢
          clear eM
          generalize p.rules.length = n at *
          generalize ts.length = L at *
          unfold plV
          go_enter Tryz.func40, Tryz.ntmps40
          go_wp2_with fail
          refine (hRul _ ?hx).mono ?_
          case hx => repeat (first | exact Ext.refl _ | assumption | apply Ext.drew | apply Ext.alloc | (refine Ext.setCell ?_ (by simp <;> omega) _) | refine Ext.trans ?_ (by assumption))
          rintro e w1 ⟨rfl, hx⟩
          clear hRul
          have hx1 : Ext w w1 := hx.past.past
          have a0 : w1.cell? ⟨w.heap.size, 0, none⟩ = some (.int .i64 M) := hx.reads (by go_simp)
          have a1 : w1.cell? ⟨w.heap.size, 1, none⟩ = some (.slice a n vc) := hx.reads (by go_simp)
          have b0 : w1.cell? ⟨w.heap.size + 1, 0, none⟩ = some (.int .i64 0) := hx.reads (by go_simp)
          have b1 : w1.cell? ⟨w.heap.size + 1, 1, none⟩ = some (.slice none 0 0) := hx.reads (by go_simp)
          have f1 : w1.frozen? ⟨w.heap.size, 1, none⟩ = false := hx.free (v := .slice a n vc) (by go_simp) (by go_simp)
          have g0 : w1.frozen? ⟨w.heap.size + 1, 0, none⟩ = false := hx.free (v := .int .i64 0) (by go_simp) (by go_simp)
          have g1 : w1.frozen? ⟨w.heap.size + 1, 1, none⟩ = false := hx.free (v := .slice none 0 0) (by go_simp) (by go_simp)
          have hs1 : w.heap.size + 1 < w1.heap.size := World.block_lt_of_cell? w1 _ b0
          have hs0 : w.heap.size < w1.heap.size := by omega
          clear hx
          go_wp2_with fail
          refine (hFi _ ?hx2).mono ?_
          case hx2 => repeat (first | exact Ext.refl _ | assumption | apply Ext.drew | apply Ext.alloc | (refine Ext.setCell ?_ (by simp <;> omega) _) | refine Ext.trans ?_ (by assumption))
          rintro e w2 ⟨r0, rfl, hr0, rfl⟩
          clear hFi
          have hr0 : 0 ≤ r0 := hr0.2 (by simp)
          go_wp2
          refine bodyPost_ret (v := .tuple #[plV M (.slice a n vc), .int .i64 28, .int .i64 1]) (by simp [results, Tryz.results40, go_sem, plV, b0, b1, hs1]) rfl ⟨.slice a n vc, hR.out, ?_, ?_⟩
          · exact hV.out.ext (by repeat (first | exact Ext.refl _ | assumption | apply Ext.drew | apply Ext.alloc | (refine Ext.setCell ?_ (by simp <;> omega) _) | refine Ext.trans ?_ (by assumption)))
          · repeat (first | exact Ext.refl _ | assumption | apply Ext.drew | apply Ext.alloc | (refine Ext.setCell ?_ (by simp <;> omega) _) | refine Ext.trans ?_ (by assumption))
      · have hp : hasP p.rules (rpar ts).1.pre = false := by simpa using hp
        rw [hp] at hFi
        by_cases hlen : 1000 ≤ p.rules.length
        · have hQ := cRule3 (p := p) h0 he hp hlen
          have hR : Hid (Ending.returned (.tuple #[plV p.most (.slice a p.rules.length vc), .int .i64 32, .int .i64 0]) = .returned (.tuple #[plV (cOne p ts).1.most (.slice a p.rules.length vc), .int .i64 (cOne p ts).2.1, .int .i64 (cOne p ts).2.2])) := Lib.hid (ret_one' (by rw [hQ]) (by rw [hQ]) (by rw [hQ]))
          have hV : Hid (RulesAt w (.slice a p.rules.length vc) (cOne p ts).1.rules) := Lib.hid (by rw [hQ]; exact hv)
          clear hl h0 he hp hat
          generalize rpar ts = RP at *
          obtain ⟨⟨RPp, RPe, RPb, RPk⟩, RPx, RPy⟩ := RP
          simp only at hRul hFi
          generalize strOf RPp = PS at *
          clear hQ hc hv hvf hok
          generalize cOne p ts = Q at *
          generalize strOf (ts.getD 0 []) = S0 at *
          obtain ⟨M, eM⟩ : ∃ M, p.most = M := ⟨_, rfl⟩
          rw [eM] at hR ⊢
          clear eM
          generalize p.rules.length = n at *
          generalize ts.length = L at *
          unfold plV
          go_enter Tryz.func40, Tryz.ntmps40
          go_wp2_with fail
          refine (hRul _ ?hx).mono ?_
          case hx => repeat (first | exact Ext.refl _ | assumption | apply Ext.drew | apply Ext.alloc | (refine Ext.setCell ?_ (by simp <;> omega) _) | refine Ext.trans ?_ (by assumption))
          rintro e w1 ⟨rfl, hx⟩
          clear hRul
          have hx1 : Ext w w1 := hx.past.past
          have a0 : w1.cell? ⟨w.heap.size, 0, none⟩ = some (.int .i64 M) := hx.reads (by go_simp)
          have a1 : w1.cell? ⟨w.heap.size, 1, none⟩ = some (.slice a n vc) := hx.reads (by go_simp)
          have b0 : w1.cell? ⟨w.heap.size + 1, 0, none⟩ = some (.int .i64 0) := hx.reads (by go_simp)
          have b1 : w1.cell? ⟨w.heap.size + 1, 1, none⟩ = some (.slice none 0 0) := hx.reads (by go_simp)
          have f1 : w1.frozen? ⟨w.heap.size, 1, none⟩ = false := hx.free (v := .slice a n vc) (by go_simp) (by go_simp)
          have g0 : w1.frozen? ⟨w.heap.size + 1, 0, none⟩ = false := hx.free (v := .int .i64 0) (by go_simp) (by go_simp)
          have g1 : w1.frozen? ⟨w.heap.size + 1, 1, none⟩ = false := hx.free (v := .slice none 0 0) (by go_simp) (by go_simp)
          have hs1 : w.heap.size + 1 < w1.heap.size := World.block_lt_of_cell? w1 _ b0
          have hs0 : w.heap.size < w1.heap.size := by omega
          clear hx
          go_wp2_with fail
          refine (hFi _ ?hx2).mono ?_
          case hx2 => repeat (first | exact Ext.refl _ | assumption | apply Ext.drew | apply Ext.alloc | (refine Ext.setCell ?_ (by simp <;> omega) _) | refine Ext.trans ?_ (by assumption))
          rintro e w2 ⟨r0, rfl, hr0, rfl⟩
          clear hFi
          have hr0 : ¬ 0 ≤ r0 := fun h => by have := hr0.1 h; simp at this
          go_wp2
          refine bodyPost_ret (v := .tuple #[plV M (.slice a n vc), .int .i64 32, .int .i64 0]) (by simp [results, Tryz.results40, go_sem, plV, b0, b1, hs1]) rfl ⟨.slice a n vc, hR.out, ?_, ?_⟩
          · exact hV.out.ext (by repeat (first | exact Ext.refl _ | assumption | apply Ext.drew | apply Ext.alloc | (refine Ext.setCell ?_ (by simp <;> omega) _) | refine Ext.trans ?_ (by assumption)))
          · repeat (first | exact Ext.refl _ | assumption | apply Ext.drew | apply Ext.alloc | (refine Ext.setCell ?_ (by simp <;> omega) _) | refine Ext.trans ?_ (by assumption))
        · have hQ := cRule4 (p := p) h0 he hp hlen
          have hlen : p.rules.length < 1000 := by omega
          have hR : Hid (∀ v' : Value, Ending.returned (.tuple #[plV p.most v', .int .i64 0, .int .i64 0]) = .returned (.tuple #[plV (cOne p ts).1.most v', .int .i64 (cOne p ts).2.1, .int .i64 (cOne p ts).2.2])) := Lib.hid (fun v' => ret_one' (by rw [hQ]) (by rw [hQ]) (by rw [hQ]))
          have hV : Hid (∀ w' v', RulesAt w' v' (p.rules ++ [(rpar ts).1]) → RulesAt w' v' (cOne p ts).1.rules) := Lib.hid (fun w' v' h => by rw [hQ]; exact h)
          obtain ⟨i0, hi, hz0, hz1, hz2⟩ := info_parts infoRl
          have hvH := Lib.hid hv
          have hvE : p.rules = [] → a = none ∧ vc = 0 := fun h => by
            have := hv.1 h
            injection this with h1 h2 h3
            exact ⟨h1, h3⟩
          clear hl h0 he hp hat hQ hok hc
          generalize cOne p ts = Q at *
          generalize strOf (ts.getD 0 []) = S0 at *
          generalize ts.length = L at *
          generalize rpar ts = RP at *
          obtain ⟨⟨RPp, RPe, RPb, RPk⟩, RPx, RPy⟩ := RP
          obtain ⟨PM, PR⟩ := p
          simp only at hRul hFi hV hR hvf hv hvH hlen hvE
          by_cases hrn : PR = []
          · obtain ⟨rfl, rfl⟩ := hvE hrn
            subst hrn
            clear hvf hv hvH hvE
            simp only [plV]
            simp only [List.length_nil] at *
            obtain ⟨PS, ePS⟩ : ∃ PS, strOf RPp = PS := ⟨_, rfl⟩
            rw [ePS] at hRul hFi
            go_enter Tryz.func40, Tryz.ntmps40
            go_wp2_with fail
            refine (hRul _ ?hx).mono ?_
            case hx => repeat (first | exact Ext.refl _ | assumption | apply Ext.drew | apply Ext.alloc | (refine Ext.setCell ?_ (by simp <;> omega) _) | refine Ext.trans ?_ (by assumption))
            rintro e w1 ⟨rfl, hx⟩
            clear hRul
            have hx1 : Ext w w1 := hx.past.past
            have a0 : w1.cell? ⟨w.heap.size, 0, none⟩ = some (.int .i64 PM) := hx.reads (by go_simp)
            have a1 : w1.cell? ⟨w.heap.size, 1, none⟩ = some (.slice none 0 0) := hx.reads (by go_simp)
            have b0 : w1.cell? ⟨w.heap.size + 1, 0, none⟩ = some (.int .i64 0) := hx.reads (by go_simp)
            have b1 : w1.cell? ⟨w.heap.size + 1, 1, none⟩ = some (.slice none 0 0) := hx.reads (by go_simp)
            have f1 : w1.frozen? ⟨w.heap.size, 1, none⟩ = false := hx.free (v := .slice none 0 0) (by go_simp) (by go_simp)
            have g0 : w1.frozen? ⟨w.heap.size + 1, 0, none⟩ = false := hx.free (v := .int .i64 0) (by go_simp) (by go_simp)
            have g1 : w1.frozen? ⟨w.heap.size + 1, 1, none⟩ = false := hx.free (v := .slice none 0 0) (by go_simp) (by go_simp)
            have hs1 : w.heap.size + 1 < w1.heap.size := World.block_lt_of_cell? w1 _ b0
            have hs0 : w.heap.size < w1.heap.size := by omega
            clear hx
            go_wp2_with fail
            refine (hFi _ ?hx2).mono ?_
            case hx2 => repeat (first | exact Ext.refl _ | assumption | apply Ext.drew | apply Ext.alloc | (refine Ext.setCell ?_ (by simp <;> omega) _) | refine Ext.trans ?_ (by assumption))
            rintro e w2 ⟨r0, rfl, hr0, rfl⟩
            clear hFi
            have hr0 : ¬ 0 ≤ r0 := fun h => by have := hr0.1 h; simp at this
            go_wp2_with (at_builtin; refine wpList_append_own _ rfl _ _ 28 rfl w1.heap.size 47 i0 _ 4 40 Tryz.underlying28 hi hz0 hz1 hz2 rfl (by decide) _ _ _ rfl (World.ownsRow_nil _ _ _ _) ⟨w1.heap.size + 1, 0, none⟩ 1 1 (rlCells [⟨RPp, RPe, RPb, RPk⟩]) rfl rfl ?c1p ?c2p ?c3p ?c4p ?c5p ?_)
            case c1p =>
              intro j u h
              have h2 := cells_new (w1.alloc (.cells #[.string PS, .int .u64 RPe, .int .u64 RPb, .int .u8 (RPk : Int)] 47)) (rlCells [⟨RPp, RPe, RPb, RPk⟩]) (rlCells [⟨RPp, RPe, RPb, RPk⟩]).toArray 47 rfl j u h
              rw [show (w1.alloc (.cells #[.string PS, .int .u64 RPe, .int .u64 RPb, .int .u8 (RPk : Int)] 47)).heap.size = w1.heap.size + 1 by simp] at h2
              rw [← h2]
              simp [rlCells, ePS]
            case c2p => exact rlCells_one _
            case c3p => unfold maxLen; omega
            try (case c4p => omega)
            case c5p => simp <;> omega
            intro v' w4 hown4 hgrow4 _
            obtain ⟨va, vcap, rfl⟩ := own_slice hown4
            have hxg : Ext w1 w4 := Below.grown (((Ext.refl w1).alloc _).alloc _) hgrow4 (by simp; omega) (by rintro k hk; simp [Value.ownBlock] at hk)
            have h4 : RulesAt w4 (.slice va (0 + 1) vcap) ([] ++ [⟨RPp, RPe, RPb, RPk⟩]) := ⟨fun h => by simp at h, owns_mono hown4 (Nat.zero_le _)⟩
            have a0' := hxg.reads a0
            have a1' := hxg.reads a1
            have b0' := hxg.reads b0
            have b1' := hxg.reads b1
            have f1' := hxg.free a1 f1
            have g0' := hxg.free b0 g0
            have g1' := hxg.free b1 g1
            have hx4 := hx1.trans hxg
            have hb4 : ∀ x, (Value.slice va (0 + 1) vcap).ownBlock = some x → w1.heap.size ≤ x := fun x hx => (hown4.lt x hx).1
            clear hown4 hgrow4 a0 a1 b0 b1 f1 g0 g1
            go_wp2
            refine bodyPost_ret (v := .tuple #[plV PM (.slice va (0 + 1) vcap), .int .i64 0, .int .i64 0]) (by simp [results, Tryz.results40, go_sem, plV, a0', b0', b1']) rfl ⟨.slice va (0 + 1) vcap, hR.out _, hV.out _ _ ⟨fun h => by simp at h, ?_⟩, by repeat (first | exact Ext.refl _ | assumption | apply Ext.drew | apply Ext.alloc | (refine Ext.setCell ?_ (by simp <;> omega) _) | refine Ext.trans ?_ (by assumption))⟩
            have hB : But (fun x => x = w.heap.size ∨ x = w.heap.size + 1) w4 (((w4.setCell ⟨w.heap.size, 1, none⟩ (.slice va (0 + 1) vcap)).setCell ⟨w.heap.size + 1, 0, none⟩ (.int .i64 PM)).setCell ⟨w.heap.size + 1, 1, none⟩ (.slice va (0 + 1) vcap)) :=
              (((But.refl (fun x => x = w.heap.size ∨ x = w.heap.size + 1) w4).setCell (.inl rfl) _).setCell (.inr rfl) _).setCell (.inr rfl) _
            refine hB.owns ?_ (fun x hx => by have := hb4 x hx; omega)
            exact h4.2
          · obtain ⟨gr, rfl, hgr, hnc, hcm⟩ := hvf hrn
            clear hvf hv hvE hrn
            simp only [plV]
            obtain ⟨PS, ePS⟩ : ∃ PS, strOf RPp = PS := ⟨_, rfl⟩
            rw [ePS] at hRul hFi
            go_enter Tryz.func40, Tryz.ntmps40
            go_wp2_with fail
            refine (hRul _ ?hx).mono ?_
            case hx => repeat (first | exact Ext.refl _ | assumption | apply Ext.drew | apply Ext.alloc | (refine Ext.setCell ?_ (by simp <;> omega) _) | refine Ext.trans ?_ (by assumption))
            rintro e w1 ⟨rfl, hx⟩
            clear hRul
            have hx1 : Ext w w1 := hx.past.past
            have a0 : w1.cell? ⟨w.heap.size, 0, none⟩ = some (.int .i64 PM) := hx.reads (by go_simp)
            have a1 : w1.cell? ⟨w.heap.size, 1, none⟩ = some (.slice (some ⟨gr, 0, none⟩) PR.length vc) := hx.reads (by go_simp)
            have b0 : w1.cell? ⟨w.heap.size + 1, 0, none⟩ = some (.int .i64 0) := hx.reads (by go_simp)
            have b1 : w1.cell? ⟨w.heap.size + 1, 1, none⟩ = some (.slice none 0 0) := hx.reads (by go_simp)
            have f1 : w1.frozen? ⟨w.heap.size, 1, none⟩ = false := hx.free (v := .slice (some ⟨gr, 0, none⟩) PR.length vc) (by go_simp) (by go_simp)
            have g0 : w1.frozen? ⟨w.heap.size + 1, 0, none⟩ = false := hx.free (v := .int .i64 0) (by go_simp) (by go_simp)
            have g1 : w1.frozen? ⟨w.heap.size + 1, 1, none⟩ = false := hx.free (v := .slice none 0 0) (by go_simp) (by go_simp)
            have hs1 : w.heap.size + 1 < w1.heap.size := World.block_lt_of_cell? w1 _ b0
            have hs0 : w.heap.size < w1.heap.size := by omega
            clear hx
            go_wp2_with fail
            refine (hFi _ ?hx2).mono ?_
            case hx2 => repeat (first | exact Ext.refl _ | assumption | apply Ext.drew | apply Ext.alloc | (refine Ext.setCell ?_ (by simp <;> omega) _) | refine Ext.trans ?_ (by assumption))
            rintro e w2 ⟨r0, rfl, hr0, rfl⟩
            clear hFi
            have hr0 : ¬ 0 ≤ r0 := fun h => by have := hr0.1 h; simp at this
            obtain ⟨WR, eWR⟩ : ∃ WR, w1.alloc (.cells #[.string PS, .int .u64 RPe, .int .u64 RPb, .int .u8 (RPk : Int)] 47) = WR := ⟨_, rfl⟩
            have r0c : WR.cell? ⟨w1.heap.size, 0, none⟩ = some (.string PS) := by subst eWR; go_simp
            have r1c : WR.cell? ⟨w1.heap.size, 1, none⟩ = some (.int .u64 RPe) := by subst eWR; go_simp
            have r2c : WR.cell? ⟨w1.heap.size, 2, none⟩ = some (.int .u64 RPb) := by subst eWR; go_simp
            have r3c : WR.cell? ⟨w1.heap.size, 3, none⟩ = some (.int .u8 (RPk : Int)) := by subst eWR; go_simp
            have xWR : Ext w1 WR := by subst eWR; exact (Ext.refl _).alloc _
            have sWR : w1.heap.size + 1 = WR.heap.size := by subst eWR; simp
            have a0 := xWR.reads a0
            have f1 := xWR.free a1 f1
            have a1 := xWR.reads a1
            have g0 := xWR.free b0 g0
            have g1 := xWR.free b1 g1
            have b0 := xWR.reads b0
            have b1 := xWR.reads b1
            have hRA := (hvH.out.ext (hx1.trans xWR))
            have hnewsA := hRA.2.cells (g := gr) rfl
            have hx1R := hx1.trans xWR
            rw [eWR]
            clear eWR hRA
            go_wp2_with (at_builtin; refine wpList_append_own _ rfl _ _ 28 rfl WR.heap.size 47 i0 _ 4 40 Tryz.underlying28 hi hz0 hz1 hz2 rfl (by decide) (.slice none 0 0) 0 [] rfl (World.ownsRow_nil _ _ _ _) ⟨gr, 0, none⟩ PR.length vc (rlCells PR) rfl (rlCells_len PR) hnewsA (rlCells_one PR) ?c3q ?c4q (Nat.le_refl _) ?_)
            case c3q => unfold maxLen; omega
            try (case c4q => omega)
            intro v3 w3 hown3 hgrow3 _
            obtain ⟨va3, vcap3, rfl⟩ := own_slice hown3
            have hxg : Ext WR w3 := Below.grown (Ext.refl WR) hgrow3 (Nat.le_refl _) (by rintro k hk; simp [Value.ownBlock] at hk)
            have r0c := hxg.reads r0c
            have r1c := hxg.reads r1c
            have r2c := hxg.reads r2c
            have r3c := hxg.reads r3c
            have hlo3 := hxg.size
            clear hgrow3 hnewsA
            go_wp2_with (at_builtin; refine wpList_append_own _ rfl _ _ 28 rfl WR.heap.size 47 i0 _ 4 40 Tryz.underlying28 hi hz0 hz1 hz2 rfl (by decide) _ _ _ rfl (hown3.alloc _) ⟨w3.heap.size, 0, none⟩ 1 1 (rlCells [⟨RPp, RPe, RPb, RPk⟩]) rfl rfl ?c1r ?c2r ?c3r ?c4r ?c5r ?_)
            case c1r =>
              intro j u h
              have h2 := cells_new (w3) (rlCells [⟨RPp, RPe, RPb, RPk⟩]) (rlCells [⟨RPp, RPe, RPb, RPk⟩]).toArray 47 rfl j u h
              rw [show (w3).heap.size = w3.heap.size by simp] at h2
              rw [← h2]
              simp [rlCells, ePS]
            case c2r => exact rlCells_one _
            case c3r => unfold maxLen; omega
            try (case c4r => omega)
            case c5r => simp <;> omega
            intro v' w4 hown4 hgrow4 _
            obtain ⟨va, vcap, rfl⟩ := own_slice hown4
            have hxg2 : Ext WR w4 := Below.grown (hxg.alloc _) hgrow4 (hxg.alloc _).size (fun k hk => (hown3.lt k hk).1)
            have h4 : RulesAt w4 (.slice va (PR.length + 1) vcap) (PR ++ [⟨RPp, RPe, RPb, RPk⟩]) := ⟨fun h => by simp at h, by rw [List.length_append, rlCells_app]; exact owns_mono hown4 (Nat.zero_le _)⟩
            have a0' := hxg2.reads a0
            have a1' := hxg2.reads a1
            have b0' := hxg2.reads b0
            have b1' := hxg2.reads b1
            have f1' := hxg2.free a1 f1
            have g0' := hxg2.free b0 g0
            have g1' := hxg2.free b1 g1
            have hx4 := hx1R.trans hxg2
            have hb4 : ∀ x, (Value.slice va (PR.length + 1) vcap).ownBlock = some x → WR.heap.size ≤ x := fun x hx => (hown4.lt x hx).1
            clear hown4 hgrow4 a0 a1 b0 b1 f1 g0 g1
            go_wp2
            refine bodyPost_ret (v := .tuple #[plV PM (.slice va (PR.length + 1) vcap), .int .i64 0, .int .i64 0]) (by simp [results, Tryz.results40, go_sem, plV, a0', b0', b1']) rfl ⟨.slice va (PR.length + 1) vcap, hR.out _, hV.out _ _ ⟨fun h => by simp at h, ?_⟩, by repeat (first | exact Ext.refl _ | assumption | apply Ext.drew | apply Ext.alloc | (refine Ext.setCell ?_ (by simp <;> omega) _) | refine Ext.trans ?_ (by assumption))⟩
            have hB : But (fun x => x = w.heap.size ∨ x = w.heap.size + 1) w4 (((w4.setCell ⟨w.heap.size, 1, none⟩ (.slice va (PR.length + 1) vcap)).setCell ⟨w.heap.size + 1, 0, none⟩ (.int .i64 PM)).setCell ⟨w.heap.size + 1, 1, none⟩ (.slice va (PR.length + 1) vcap)) :=
              (((But.refl (fun x => x = w.heap.size ∨ x = w.heap.size + 1) w4).setCell (.inl rfl) _).setCell (.inr rfl) _).setCell (.inr rfl) _
            refine hB.owns ?_ (fun x hx => by have := hb4 x hx; omega)
            exact h4.2
    · have hQ := cRule1 (p := p) h0 he
      have hR : Hid (Ending.returned (.tuple #[plV p.most (.slice a p.rules.length vc), .int .i64 (rpar ts).2.1, .int .i64 (rpar ts).2.2]) = .returned (.tuple #[plV (cOne p ts).1.most (.slice a p.rules.length vc), .int .i64 (cOne p ts).2.1, .int .i64 (cOne p ts).2.2])) := Lib.hid (ret_one' (by rw [hQ]) (by rw [hQ]) (by rw [hQ]))
      have hV : Hid (RulesAt w (.slice a p.rules.length vc) (cOne p ts).1.rules) := Lib.hid (by rw [hQ]; exact hv)
      clear hFi hl h0
      generalize rpar ts = RP at *
      obtain ⟨⟨RPp, RPe, RPb, RPk⟩, RPx, RPy⟩ := RP
      simp only at hRul hR he hat
      have he' : (RPx != 0) = true := by simp [he]
      clear hQ hc hv hvf hok
      generalize cOne p ts = Q at *
      generalize strOf (ts.getD 0 []) = S0 at *
      obtain ⟨M, eM⟩ : ∃ M, p.most = M := ⟨_, rfl⟩
      rw [eM] at hR ⊢
      clear eM
      generalize p.rules.length = n at *
      generalize ts.length = L at *
      unfold plV
      go_enter Tryz.func40, Tryz.ntmps40
      go_wp2_with fail
      refine (hRul _ ?hx).mono ?_
      case hx => repeat (first | exact Ext.refl _ | assumption | apply Ext.drew | apply Ext.alloc | (refine Ext.setCell ?_ (by simp <;> omega) _) | refine Ext.trans ?_ (by assumption))
      rintro e w1 ⟨rfl, hx⟩
      clear hRul
      have hx1 : Ext w w1 := hx.past.past
      have a0 : w1.cell? ⟨w.heap.size, 0, none⟩ = some (.int .i64 M) := hx.reads (by go_simp)
      have a1 : w1.cell? ⟨w.heap.size, 1, none⟩ = some (.slice a n vc) := hx.reads (by go_simp)
      have b0 : w1.cell? ⟨w.heap.size + 1, 0, none⟩ = some (.int .i64 0) := hx.reads (by go_simp)
      have b1 : w1.cell? ⟨w.heap.size + 1, 1, none⟩ = some (.slice none 0 0) := hx.reads (by go_simp)
      have f1 : w1.frozen? ⟨w.heap.size, 1, none⟩ = false := hx.free (v := .slice a n vc) (by go_simp) (by go_simp)
      have g0 : w1.frozen? ⟨w.heap.size + 1, 0, none⟩ = false := hx.free (v := .int .i64 0) (by go_simp) (by go_simp)
      have g1 : w1.frozen? ⟨w.heap.size + 1, 1, none⟩ = false := hx.free (v := .slice none 0 0) (by go_simp) (by go_simp)
      have hs1 : w.heap.size + 1 < w1.heap.size := World.block_lt_of_cell? w1 _ b0
      have hs0 : w.heap.size < w1.heap.size := by omega
      clear hx
      go_wp2
      refine bodyPost_ret (v := .tuple #[plV M (.slice a n vc), .int .i64 RPx, .int .i64 RPy]) (by simp [results, Tryz.results40, go_sem, plV, b0, b1, hs1]) rfl ⟨.slice a n vc, hR.out, ?_, ?_⟩
      · exact hV.out.ext (by repeat (first | exact Ext.refl _ | assumption | apply Ext.drew | apply Ext.alloc | (refine Ext.setCell ?_ (by simp <;> omega) _) | refine Ext.trans ?_ (by assumption)))
      · repeat (first | exact Ext.refl _ | assumption | apply Ext.drew | apply Ext.alloc | (refine Ext.setCell ?_ (by simp <;> omega) _) | refine Ext.trans ?_ (by assumption))

end Go.Proofs.YtdgcgpapcbjfhaaGreatDoor
