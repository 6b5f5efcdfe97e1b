/- One rule out of words, by the reference: the walk. -/
import Derived.Test.YtdgcgpapcbjfhaaGreatDoorJ08Srt
import Derived.Test.YtdgcgpapcbjfhaaGreatDoorJ11Rg
set_option linter.unusedVariables false
set_option linter.unusedSimpArgs false

/- One rule out of words, by the reference. -/
namespace Go.Proofs.YtdgcgpapcbjfhaaGreatDoor
open Go.RowKit

def nameS (k : Nat) : ByteArray := if k = 1 then ⟨#[103, 99, 114, 97]⟩ else if k = 2 then ⟨#[98, 117, 99, 107, 101, 116]⟩ else if k = 3 then ⟨#[108, 101, 97, 107, 121]⟩ else ⟨#[]⟩

theorem rName (k : Nat) (hk : k ≤ 255) (w : World) :
    Calls Tryz.prog 47 #[.int .u8 k] w fun e w' => e = .returned (.string (nameS k)) ∧ w = w' := by
  by_cases h1 : k = 1
  · subst h1
    go_enter Tryz.func47, Tryz.ntmps47
    go_wp2
    go_ret
    exact ⟨rfl, rfl⟩
  by_cases h2 : k = 2
  · subst h2
    go_enter Tryz.func47, Tryz.ntmps47
    go_wp2
    go_ret
    exact ⟨rfl, rfl⟩
  by_cases h3 : k = 3
  · subst h3
    go_enter Tryz.func47, Tryz.ntmps47
    go_wp2
    go_ret
    exact ⟨rfl, rfl⟩
  have e1 : ((k : Int) == 1) = false := beq_eq_false_iff_ne.2 (by omega)
  have e2 : ((k : Int) == 2) = false := beq_eq_false_iff_ne.2 (by omega)
  have e3 : ((k : Int) == 3) = false := beq_eq_false_iff_ne.2 (by omega)
  unfold nameS
  rw [if_neg h1, if_neg h2, if_neg h3]
  go_enter Tryz.func47, Tryz.ntmps47
  go_wp2
  go_ret
  exact ⟨rfl, rfl⟩

/-- is it the name of kernel k? -/
def isName (t : List UInt8) (k : Nat) : Bool := decide (t = bs (nameS k))
theorem kindN_eq (t : List UInt8) : kindN t = if isName t 1 then 1 else if isName t 2 then 2 else if isName t 3 then 3 else 0 := by
  unfold kindN isName
  simp only [decide_eq_true_eq]
  rfl
theorem name_beq (t : List UInt8) (k : Nat) : ((nameS k).toList == (strOf t).toList) = isName t k := by
  rw [toList_bs, toList_bs, bs_strOf]
  unfold isName
  rw [Bool.eq_iff_iff, beq_iff_eq, decide_eq_true_iff]
  exact eq_comm

theorem ret_kind {a a' : Int} {b b' : Bool} (h : a = a') (h' : b = b') : Ending.returned (.tuple #[.int .u8 a, .bool b]) = .returned (.tuple #[.int .u8 a', .bool b']) := by rw [h, h']

set_option maxHeartbeats 800000 in
theorem rKindR (t : List UInt8) (w : World) :
    Calls Tryz.prog 88 #[.string (strOf t)] w fun e w' => e = .returned (.tuple #[.int .u8 (kindN t), .bool (decide (kindN t ≠ 0))]) ∧ w = w' := by
  have hN := rName
  have hB := name_beq t
  have hK := Lib.hid (kindN_eq t)
  generalize kindN t = K at *
  generalize strOf t = s at *
  obtain ⟨f, hf⟩ : ∃ f, isName t = f := ⟨_, rfl⟩
  rw [hf] at hB hK
  clear hf
  generalize nameS = N at *
  go_enter Tryz.func88, Tryz.ntmps88
  go_wp2
  go_loop [4] (fun i => ∃ k : Nat, 1 ≤ k ∧ k ≤ 4 ∧ i = .int .u8 k ∧ Hid (∀ j, 1 ≤ j → j < k → f j = false)) (fun i => 4 - (intOf i).toNat)
  case atStart => exact ⟨1, by omega, by omega, rfl, Lib.hid (fun j h1 h2 => by omega)⟩
  case round =>
    obtain ⟨k, h1, h4, rfl, hI⟩ := hrel
    by_cases hlt : k ≤ 3
    · have hBk := hB k
      obtain ⟨b, eb⟩ : ∃ b, f k = b := ⟨_, rfl⟩
      rw [eb] at hBk
      have ebH := Lib.hid eb
      clear eb hB
      go_wp2_with fail
      refine (hN k (by omega) _).mono ?_
      rintro e w1 ⟨rfl, rfl⟩
      cases b
      · have hJ : Hid (∀ j, 1 ≤ j → j < k + 1 → f j = false) := Lib.hid (fun j a b => by
          by_cases hj : j = k
          · subst hj; exact ebH.out
          · exact hI.out j a (by omega))
        clear hI ebH
        go_wp2
        go_round
        case rel => exact ⟨k + 1, by omega, by omega, by go_num, hJ⟩
        case measure => (simp [intOf]) <;> omega
      · have hKK : Hid (K = k) := Lib.hid (by
          rw [hK.out]
          have := hI.out
          have hc : k = 1 ∨ k = 2 ∨ k = 3 := by omega
          rcases hc with rfl | rfl | rfl
          · rw [ebH.out]; rfl
          · rw [this 1 (by omega) (by omega), ebH.out]; rfl
          · rw [this 1 (by omega) (by omega), this 2 (by omega) (by omega), ebH.out]; rfl)
        clear hI ebH
        go_wp2
        go_ret2
        exact ⟨ret_kind (by rw [hKK.out]) (by rw [hKK.out]; simp; omega), rfl⟩
    · obtain rfl : k = 4 := by omega
      have hKK : Hid (K = 0) := Lib.hid (by
        rw [hK.out, hI.out 1 (by omega) (by omega), hI.out 2 (by omega) (by omega), hI.out 3 (by omega) (by omega)]; rfl)
      clear hI
      go_wp2
      go_ret2
      exact ⟨ret_kind (by rw [hKK.out]; rfl) (by rw [hKK.out]; rfl), rfl⟩

theorem rNumber (t : List UInt8) (ht : t.length ≤ 1000000) (none : Int) (hn : none = 24 ∨ none = 25) (w : World) :
    Calls Tryz.prog 87 #[.string (strOf t), .int .i64 none] w fun e w' => e = .returned (.tuple #[.int .u64 (dV t), .int .i64 (numE t none)]) ∧ w = w' := by
  have hD := rParse (strOf t) (by rw [← bs_length, bs_strOf]; unfold maxLen; omega)
  rw [bs_strOf] at hD
  have hE : Hid (numE t none = if dE t = 0 ∧ dV t = 0 then none else dE t) := Lib.hid rfl
  obtain ⟨r, er⟩ : ∃ r, numE t none = r := ⟨_, rfl⟩
  rw [er] at hE ⊢
  clear er
  generalize dE t = E at *
  generalize dV t = V at *
  by_cases h0 : E = 0
  · by_cases hv : V = 0
    · subst h0 hv
      obtain rfl : r = none := by rw [hE.out]; simp
      clear hE
      go_enter Tryz.func87, Tryz.ntmps87
      go_wp2_with fail
      refine (hD _).mono ?_
      rintro e w1 ⟨rfl, rfl⟩
      go_wp2
      go_ret2
      exact ⟨rfl, rfl⟩
    · subst h0
      obtain rfl : r = 0 := by rw [hE.out]; simp [hv]
      have hv' : (V == 0) = false := beq_eq_false_iff_ne.2 hv
      clear hE
      go_enter Tryz.func87, Tryz.ntmps87
      go_wp2_with fail
      refine (hD _).mono ?_
      rintro e w1 ⟨rfl, rfl⟩
      go_wp2
      go_ret2
      exact ⟨rfl, rfl⟩
  · obtain rfl : r = E := by rw [hE.out]; simp [h0]
    have h0' : (r == 0) = false := beq_eq_false_iff_ne.2 h0
    clear hE
    go_enter Tryz.func87, Tryz.ntmps87
    go_wp2_with fail
    refine (hD _).mono ?_
    rintro e w1 ⟨rfl, rfl⟩
    go_wp2
    go_ret2
    exact ⟨rfl, rfl⟩

end Go.Proofs.YtdgcgpapcbjfhaaGreatDoor

/- One rule out of words, by the reference: the walk. -/
namespace Go.Proofs.YtdgcgpapcbjfhaaGreatDoor
open Go.RowKit

/-- texts in memory, in a row -/
def StrsAt (w : World) (g : Nat) (ts : List (List UInt8)) : Prop := ∀ i, i < ts.length → w.cell? ⟨g, i, none⟩ = some (.string (strOf (ts.getD i [])))
theorem StrsAt.ext {w w' : World} {g : Nat} {ts : List (List UInt8)} (h : StrsAt w g ts) (hx : Ext w w') : StrsAt w' g ts := fun i hi => hx.reads (h i hi)

def rlV (r : Rl) : Value := .agg #[.string (strOf r.pre), .int .u64 r.ev, .int .u64 r.bu, .int .u8 (r.kd : Int)]

theorem ret_rule {r r' : Rl} {e e' a a' : Int} (h : (r, e, a) = (r', e', a')) : Ending.returned (.tuple #[rlV r, .int .i64 e, .int .i64 a]) = .returned (.tuple #[rlV r', .int .i64 e', .int .i64 a']) := by
  injection h with h1 h2; injection h2 with h2 h3; rw [h1, h2, h3]

theorem strOf_eq (t : List UInt8) (c : List UInt8) : ((strOf t).toList == c) = decide (t = c) := by
  rw [toList_bs, bs_strOf]; rw [Bool.eq_iff_iff, beq_iff_eq, decide_eq_true_iff]

theorem rTail_e1 {ws : List (List UInt8)} {a : Nat} {pre : List UInt8} (h : numE (ws.getD a []) 24 ≠ 0) : rTail ws a pre = (Rl0, numE (ws.getD a []) 24, (a : Int)) := by unfold rTail; rw [if_pos h]
theorem rTail_e2 {ws : List (List UInt8)} {a : Nat} {pre : List UInt8} (h : numE (ws.getD a []) 24 = 0) (h2 : burE (dV (ws.getD a [])) (ws.getD (a + 1) []) ≠ 0) : rTail ws a pre = (Rl0, burE (dV (ws.getD a [])) (ws.getD (a + 1) []), ((a + 1 : Nat) : Int)) := by
  unfold rTail; rw [if_neg (fun hh => hh h), if_pos h2]
theorem rTail_e3 {ws : List (List UInt8)} {a : Nat} {pre : List UInt8} (h : numE (ws.getD a []) 24 = 0) (h2 : burE (dV (ws.getD a [])) (ws.getD (a + 1) []) = 0) (h3 : kindN (ws.getD (a + 2) []) = 0) : rTail ws a pre = (Rl0, 27, ((a + 2 : Nat) : Int)) := by
  unfold rTail; rw [if_neg (fun hh => hh h), if_neg (fun hh => hh h2), if_pos h3]
theorem rTail_ok {ws : List (List UInt8)} {a : Nat} {pre : List UInt8} (h : numE (ws.getD a []) 24 = 0) (h2 : burE (dV (ws.getD a [])) (ws.getD (a + 1) []) = 0) (h3 : kindN (ws.getD (a + 2) []) ≠ 0) :
    rTail ws a pre = (⟨pre, dV (ws.getD a []), dV (ws.getD (a + 1) []), kindN (ws.getD (a + 2) [])⟩, 0, 0) := by
  unfold rTail; rw [if_neg (fun hh => hh h), if_neg (fun hh => hh h2), if_neg h3]
theorem rpar_default {ws : List (List UInt8)} (h : ws.length = 4) (h0 : ws.getD 0 [] = sDefault) : rpar ws = rTail ws 1 [] := by unfold rpar; rw [if_pos ⟨h, h0⟩]
theorem rpar_rule {ws : List (List UInt8)} (h : ws.length = 5) (h0 : ws.getD 0 [] = sRule) (hk : kRight (ws.getD 1 []) = true) : rpar ws = rTail ws 2 (ws.getD 1 []) := by
  unfold rpar; rw [if_neg (by omega), if_pos ⟨h, h0⟩, if_pos hk]
theorem rpar_key {ws : List (List UInt8)} (h : ws.length = 5) (h0 : ws.getD 0 [] = sRule) (hk : kRight (ws.getD 1 []) = false) : rpar ws = (Rl0, 23, 1) := by
  unfold rpar; rw [if_neg (by omega), if_pos ⟨h, h0⟩, hk]; rfl
theorem rpar_no {ws : List (List UInt8)} (h : ¬ (ws.length = 4 ∧ ws.getD 0 [] = sDefault)) (h2 : ¬ (ws.length = 5 ∧ ws.getD 0 [] = sRule)) : rpar ws = (Rl0, 22, 0) := by unfold rpar; rw [if_neg h, if_neg h2]

theorem rlV_0 : rlV Rl0 = .agg #[.string ⟨#[]⟩, .int .u64 0, .int .u64 0, .int .u8 0] := rfl

set_option maxRecDepth 100000 in
set_option maxHeartbeats 3200000 in
theorem rRuleD (ts : List (List UInt8)) (g cp : Nat) (hcp : ts.length ≤ cp) (hl : ∀ i, (ts.getD i []).length ≤ 1000000) (h4 : ts.length = 4) (h0 : ts.getD 0 [] = sDefault) (w : World) (hc : StrsAt w g ts) :
    Calls Tryz.prog 66 #[.slice (some ⟨g, 0, none⟩) ts.length cp] w fun e w' => e = .returned (.tuple #[rlV (rpar ts).1, .int .i64 (rpar ts).2.1, .int .i64 (rpar ts).2.2]) ∧ Ext w w' := by
  have hR := Lib.hid (rpar_default h4 h0)
  have c0 := hc 0 (by omega)
  have hgs : g < w.heap.size := World.block_lt_of_cell? w _ c0
  rw [h0] at c0
  rw [h4] at hcp ⊢
  have hs0 : ((strOf sDefault).toList == [100, 101, 102, 97, 117, 108, 116]) = true := by rw [strOf_eq]; rfl
  have hc : ∀ i, i < 4 → w.cell? ⟨g, i, none⟩ = some (.string (strOf (ts.getD i []))) := fun i hi => hc i (by omega)
  clear h0
  generalize rpar ts = RP at *
  generalize strOf sDefault = S0 at *
  have hn1 := rNumber (ts.getD 1 []) (hl 1) 24 (.inl rfl)
  have hn2 := rNumber (ts.getD (2) []) (hl (2)) 25 (.inr rfl)
  have hk3 := rKindR (ts.getD (3) [])
  have hmu := r2Mul (dV (ts.getD 1 [])) (dV (ts.getD (2) [])) (dV_U _) (dV_U _)
  have c1 := hc 1 (by omega)
  have c2 := hc (2) (by omega)
  have c3 := hc (3) (by omega)
  have hR1 := Lib.hid (fun h => hR.out.trans (rTail_e1 (ws := ts) (a := 1) (pre := []) h))
  have hR2 := Lib.hid (fun h h2 => hR.out.trans (rTail_e2 (ws := ts) (a := 1) (pre := []) h h2))
  have hR3 := Lib.hid (fun h h2 h3 => hR.out.trans (rTail_e3 (ws := ts) (a := 1) (pre := []) h h2 h3))
  have hR4 := Lib.hid (fun h h2 h3 => hR.out.trans (rTail_ok (ws := ts) (a := 1) (pre := []) h h2 h3))
  have hbE : Hid (burE (dV (ts.getD 1 [])) (ts.getD (2) []) = if numE (ts.getD (2) []) 25 = 0 ∧ 4611686018427387904 < umul (dV (ts.getD 1 [])) (dV (ts.getD (2) [])) then 26 else numE (ts.getD (2) []) 25) := Lib.hid rfl
  clear hR hc
  generalize burE (dV (ts.getD 1 [])) (ts.getD (2) []) = F at *
  generalize numE (ts.getD 1 []) 24 = E1 at *
  generalize numE (ts.getD (2) []) 25 = E2 at *
  generalize umul (dV (ts.getD 1 [])) (dV (ts.getD (2) [])) = M at *
  generalize dV (ts.getD 1 []) = V1 at *
  generalize dV (ts.getD (2) []) = V2 at *
  generalize kindN (ts.getD (3) []) = K at *
  generalize strOf (ts.getD 1 []) = S1 at *
  generalize strOf (ts.getD (2) []) = S2 at *
  generalize strOf (ts.getD (3) []) = S3 at *
  by_cases h1 : E1 = 0
  · subst h1
    by_cases h2 : E2 = 0
    · subst h2
      by_cases hb : 4611686018427387904 < M
      · obtain rfl : F = 26 := by rw [hbE.out]; simp [hb]
        clear hbE
        go_enter Tryz.func66, Tryz.ntmps66
        go_wp2_with fail
        refine (hn1 _).mono ?_
        rintro e w1 ⟨rfl, rfl⟩
        clear hn1
        go_wp2_with fail
        refine (hn2 _).mono ?_
        rintro e w2 ⟨rfl, rfl⟩
        clear hn2
        go_wp2_with fail
        refine (hmu _).mono ?_
        rintro e w3 ⟨rfl, rfl⟩
        clear hmu
        go_wp2
        refine bodyPost_ret (v := .tuple #[.agg #[.string ⟨#[]⟩, .int .u64 0, .int .u64 0, .int .u8 0], .int .i64 26, .int .i64 2]) (by simp [results, Tryz.results66, go_sem]) rfl ⟨?_, ?_⟩
        · exact ret_rule (r := Rl0) ((hR2.out (by simp) (by simp)).symm)
        · repeat (first | exact Ext.refl _ | assumption | apply Ext.drew | apply Ext.alloc | (refine Ext.setCell ?_ (by simp <;> omega) _) | refine Ext.trans ?_ (by assumption))
      · obtain rfl : F = 0 := by rw [hbE.out]; simp [hb]
        clear hbE
        by_cases h3 : K = 0
        · subst h3
          go_enter Tryz.func66, Tryz.ntmps66
          go_wp2_with fail
          refine (hn1 _).mono ?_
          rintro e w1 ⟨rfl, rfl⟩
          clear hn1
          go_wp2_with fail
          refine (hn2 _).mono ?_
          rintro e w2 ⟨rfl, rfl⟩
          clear hn2
          go_wp2_with fail
          refine (hmu _).mono ?_
          rintro e w3 ⟨rfl, rfl⟩
          clear hmu
          go_wp2_with fail
          refine (hk3 _).mono ?_
          rintro e w4 ⟨rfl, rfl⟩
          clear hk3
          go_wp2
          refine bodyPost_ret (v := .tuple #[.agg #[.string ⟨#[]⟩, .int .u64 0, .int .u64 0, .int .u8 0], .int .i64 27, .int .i64 3]) (by simp [results, Tryz.results66, go_sem]) rfl ⟨?_, ?_⟩
          · exact ret_rule (r := Rl0) ((hR3.out (by simp) (by simp) (by simp)).symm)
          · repeat (first | exact Ext.refl _ | assumption | apply Ext.drew | apply Ext.alloc | (refine Ext.setCell ?_ (by simp <;> omega) _) | refine Ext.trans ?_ (by assumption))
        · have h3' : decide (K ≠ 0) = true := by simp [h3]
          rw [h3'] at hk3
          go_enter Tryz.func66, Tryz.ntmps66
          go_wp2_with fail
          refine (hn1 _).mono ?_
          rintro e w1 ⟨rfl, rfl⟩
          clear hn1
          go_wp2_with fail
          refine (hn2 _).mono ?_
          rintro e w2 ⟨rfl, rfl⟩
          clear hn2
          go_wp2_with fail
          refine (hmu _).mono ?_
          rintro e w3 ⟨rfl, rfl⟩
          clear hmu
          go_wp2_with fail
          refine (hk3 _).mono ?_
          rintro e w4 ⟨rfl, rfl⟩
          clear hk3
          go_wp2
          refine bodyPost_ret (v := .tuple #[.agg #[.string ⟨#[]⟩, .int .u64 V1, .int .u64 V2, .int .u8 (K : Int)], .int .i64 0, .int .i64 0]) (by simp [results, Tryz.results66, go_sem]) rfl ⟨?_, ?_⟩
          · exact ret_rule (r := ⟨[], V1, V2, K⟩) ((hR4.out (by simp) (by simp) h3).symm)
          · repeat (first | exact Ext.refl _ | assumption | apply Ext.drew | apply Ext.alloc | (refine Ext.setCell ?_ (by simp <;> omega) _) | refine Ext.trans ?_ (by assumption))
    · obtain rfl : F = E2 := by rw [hbE.out]; simp [h2]
      have h2' : (F == 0) = false := beq_eq_false_iff_ne.2 h2
      clear hbE
      go_enter Tryz.func66, Tryz.ntmps66
      go_wp2_with fail
      refine (hn1 _).mono ?_
      rintro e w1 ⟨rfl, rfl⟩
      clear hn1
      go_wp2_with fail
      refine (hn2 _).mono ?_
      rintro e w2 ⟨rfl, rfl⟩
      clear hn2
      go_wp2
      refine bodyPost_ret (v := .tuple #[.agg #[.string ⟨#[]⟩, .int .u64 0, .int .u64 0, .int .u8 0], .int .i64 F, .int .i64 2]) (by simp [results, Tryz.results66, go_sem]) rfl ⟨?_, ?_⟩
      · exact ret_rule (r := Rl0) ((hR2.out (by simp) h2).symm)
      · repeat (first | exact Ext.refl _ | assumption | apply Ext.drew | apply Ext.alloc | (refine Ext.setCell ?_ (by simp <;> omega) _) | refine Ext.trans ?_ (by assumption))
  · have h1' : (E1 == 0) = false := beq_eq_false_iff_ne.2 h1
    clear hbE
    go_enter Tryz.func66, Tryz.ntmps66
    go_wp2_with fail
    refine (hn1 _).mono ?_
    rintro e w1 ⟨rfl, rfl⟩
    clear hn1
    go_wp2
    refine bodyPost_ret (v := .tuple #[.agg #[.string ⟨#[]⟩, .int .u64 0, .int .u64 0, .int .u8 0], .int .i64 E1, .int .i64 1]) (by simp [results, Tryz.results66, go_sem]) rfl ⟨?_, ?_⟩
    · exact ret_rule (r := Rl0) ((hR1.out h1).symm)
    · repeat (first | exact Ext.refl _ | assumption | apply Ext.drew | apply Ext.alloc | (refine Ext.setCell ?_ (by simp <;> omega) _) | refine Ext.trans ?_ (by assumption))

set_option maxRecDepth 100000 in
set_option maxHeartbeats 3200000 in
theorem rRuleR (ts : List (List UInt8)) (g cp : Nat) (hcp : ts.length ≤ cp) (hl : ∀ i, (ts.getD i []).length ≤ 1000000) (h5 : ts.length = 5) (h0 : ts.getD 0 [] = sRule) (w : World) (hc : StrsAt w g ts) :
    Calls Tryz.prog 66 #[.slice (some ⟨g, 0, none⟩) ts.length cp] w fun e w' => e = .returned (.tuple #[rlV (rpar ts).1, .int .i64 (rpar ts).2.1, .int .i64 (rpar ts).2.2]) ∧ Ext w w' := by
  have c0 := hc 0 (by omega)
  have hgs : g < w.heap.size := World.block_lt_of_cell? w _ c0
  rw [h0] at c0
  rw [h5] at hcp ⊢
  have hs0 : ((strOf sRule).toList == [114, 117, 108, 101]) = true := by rw [strOf_eq]; rfl
  have hKy := rKey (strOf (ts.getD 1 []))
  rw [bs_strOf] at hKy
  have d1 := hc 1 (by omega)
  by_cases hkk : kRight (ts.getD 1 []) = true
  · have hR := Lib.hid (rpar_rule h5 h0 hkk)
    have hc : ∀ i, i < 5 → w.cell? ⟨g, i, none⟩ = some (.string (strOf (ts.getD i []))) := fun i hi => hc i (by omega)
    rw [hkk] at hKy
    clear h0 hkk
    generalize rpar ts = RP at *
    generalize strOf sRule = S0 at *
    obtain ⟨PR, ePR⟩ : ∃ PR, strOf (ts.getD 1 []) = PR := ⟨_, rfl⟩
    rw [ePR] at hKy d1
    have hn1 := rNumber (ts.getD 2 []) (hl 2) 24 (.inl rfl)
    have hn2 := rNumber (ts.getD (3) []) (hl (3)) 25 (.inr rfl)
    have hk3 := rKindR (ts.getD (4) [])
    have hmu := r2Mul (dV (ts.getD 2 [])) (dV (ts.getD (3) [])) (dV_U _) (dV_U _)
    have c1 := hc 2 (by omega)
    have c2 := hc (3) (by omega)
    have c3 := hc (4) (by omega)
    have hR1 := Lib.hid (fun h => hR.out.trans (rTail_e1 (ws := ts) (a := 2) (pre := (ts.getD 1 [])) h))
    have hR2 := Lib.hid (fun h h2 => hR.out.trans (rTail_e2 (ws := ts) (a := 2) (pre := (ts.getD 1 [])) h h2))
    have hR3 := Lib.hid (fun h h2 h3 => hR.out.trans (rTail_e3 (ws := ts) (a := 2) (pre := (ts.getD 1 [])) h h2 h3))
    have hR4 := Lib.hid (fun h h2 h3 => hR.out.trans (rTail_ok (ws := ts) (a := 2) (pre := (ts.getD 1 [])) h h2 h3))
    have hbE : Hid (burE (dV (ts.getD 2 [])) (ts.getD (3) []) = if numE (ts.getD (3) []) 25 = 0 ∧ 4611686018427387904 < umul (dV (ts.getD 2 [])) (dV (ts.getD (3) [])) then 26 else numE (ts.getD (3) []) 25) := Lib.hid rfl
    clear hR hc
    generalize burE (dV (ts.getD 2 [])) (ts.getD (3) []) = F at *
    generalize numE (ts.getD 2 []) 24 = E1 at *
    generalize numE (ts.getD (3) []) 25 = E2 at *
    generalize umul (dV (ts.getD 2 [])) (dV (ts.getD (3) [])) = M at *
    generalize dV (ts.getD 2 []) = V1 at *
    generalize dV (ts.getD (3) []) = V2 at *
    generalize kindN (ts.getD (4) []) = K at *
    generalize strOf (ts.getD 2 []) = S1 at *
    generalize strOf (ts.getD (3) []) = S2 at *
    generalize strOf (ts.getD (4) []) = S3 at *
    by_cases h1 : E1 = 0
    · subst h1
      by_cases h2 : E2 = 0
      · subst h2
        by_cases hb : 4611686018427387904 < M
        · obtain rfl : F = 26 := by rw [hbE.out]; simp [hb]
          clear hbE
          go_enter Tryz.func66, Tryz.ntmps66
          go_wp2_with fail
          refine (hKy _).mono ?_
          rintro e w0 ⟨rfl, rfl⟩
          clear hKy
          go_wp2_with fail
          refine (hn1 _).mono ?_
          rintro e w1 ⟨rfl, rfl⟩
          clear hn1
          go_wp2_with fail
          refine (hn2 _).mono ?_
          rintro e w2 ⟨rfl, rfl⟩
          clear hn2
          go_wp2_with fail
          refine (hmu _).mono ?_
          rintro e w3 ⟨rfl, rfl⟩
          clear hmu
          go_wp2
          refine bodyPost_ret (v := .tuple #[.agg #[.string ⟨#[]⟩, .int .u64 0, .int .u64 0, .int .u8 0], .int .i64 26, .int .i64 3]) (by simp [results, Tryz.results66, go_sem]) rfl ⟨?_, ?_⟩
          · exact ret_rule (r := Rl0) ((hR2.out (by simp) (by simp)).symm)
          · repeat (first | exact Ext.refl _ | assumption | apply Ext.drew | apply Ext.alloc | (refine Ext.setCell ?_ (by simp <;> omega) _) | refine Ext.trans ?_ (by assumption))
        · obtain rfl : F = 0 := by rw [hbE.out]; simp [hb]
          clear hbE
          by_cases h3 : K = 0
          · subst h3
            go_enter Tryz.func66, Tryz.ntmps66
            go_wp2_with fail
            refine (hKy _).mono ?_
            rintro e w0 ⟨rfl, rfl⟩
            clear hKy
            go_wp2_with fail
            refine (hn1 _).mono ?_
            rintro e w1 ⟨rfl, rfl⟩
            clear hn1
            go_wp2_with fail
            refine (hn2 _).mono ?_
            rintro e w2 ⟨rfl, rfl⟩
            clear hn2
            go_wp2_with fail
            refine (hmu _).mono ?_
            rintro e w3 ⟨rfl, rfl⟩
            clear hmu
            go_wp2_with fail
            refine (hk3 _).mono ?_
            rintro e w4 ⟨rfl, rfl⟩
            clear hk3
            go_wp2
            refine bodyPost_ret (v := .tuple #[.agg #[.string ⟨#[]⟩, .int .u64 0, .int .u64 0, .int .u8 0], .int .i64 27, .int .i64 4]) (by simp [results, Tryz.results66, go_sem]) rfl ⟨?_, ?_⟩
            · exact ret_rule (r := Rl0) ((hR3.out (by simp) (by simp) (by simp)).symm)
            · repeat (first | exact Ext.refl _ | assumption | apply Ext.drew | apply Ext.alloc | (refine Ext.setCell ?_ (by simp <;> omega) _) | refine Ext.trans ?_ (by assumption))
          · have h3' : decide (K ≠ 0) = true := by simp [h3]
            rw [h3'] at hk3
            go_enter Tryz.func66, Tryz.ntmps66
            go_wp2_with fail
            refine (hKy _).mono ?_
            rintro e w0 ⟨rfl, rfl⟩
            clear hKy
            go_wp2_with fail
            refine (hn1 _).mono ?_
            rintro e w1 ⟨rfl, rfl⟩
            clear hn1
            go_wp2_with fail
            refine (hn2 _).mono ?_
            rintro e w2 ⟨rfl, rfl⟩
            clear hn2
            go_wp2_with fail
            refine (hmu _).mono ?_
            rintro e w3 ⟨rfl, rfl⟩
            clear hmu
            go_wp2_with fail
            refine (hk3 _).mono ?_
            rintro e w4 ⟨rfl, rfl⟩
            clear hk3
            go_wp2
            refine bodyPost_ret (v := .tuple #[.agg #[.string PR, .int .u64 V1, .int .u64 V2, .int .u8 (K : Int)], .int .i64 0, .int .i64 0]) (by simp [results, Tryz.results66, go_sem]) rfl ⟨?_, ?_⟩
            · rw [← ePR]; exact ret_rule (r := ⟨(ts.getD 1 []), V1, V2, K⟩) ((hR4.out (by simp) (by simp) h3).symm)
            · repeat (first | exact Ext.refl _ | assumption | apply Ext.drew | apply Ext.alloc | (refine Ext.setCell ?_ (by simp <;> omega) _) | refine Ext.trans ?_ (by assumption))
      · obtain rfl : F = E2 := by rw [hbE.out]; simp [h2]
        have h2' : (F == 0) = false := beq_eq_false_iff_ne.2 h2
        clear hbE
        go_enter Tryz.func66, Tryz.ntmps66
        go_wp2_with fail
        refine (hKy _).mono ?_
        rintro e w0 ⟨rfl, rfl⟩
        clear hKy
        go_wp2_with fail
        refine (hn1 _).mono ?_
        rintro e w1 ⟨rfl, rfl⟩
        clear hn1
        go_wp2_with fail
        refine (hn2 _).mono ?_
        rintro e w2 ⟨rfl, rfl⟩
        clear hn2
        go_wp2
        refine bodyPost_ret (v := .tuple #[.agg #[.string ⟨#[]⟩, .int .u64 0, .int .u64 0, .int .u8 0], .int .i64 F, .int .i64 3]) (by simp [results, Tryz.results66, go_sem]) rfl ⟨?_, ?_⟩
        · exact ret_rule (r := Rl0) ((hR2.out (by simp) h2).symm)
        · repeat (first | exact Ext.refl _ | assumption | apply Ext.drew | apply Ext.alloc | (refine Ext.setCell ?_ (by simp <;> omega) _) | refine Ext.trans ?_ (by assumption))
    · have h1' : (E1 == 0) = false := beq_eq_false_iff_ne.2 h1
      clear hbE
      go_enter Tryz.func66, Tryz.ntmps66
      go_wp2_with fail
      refine (hKy _).mono ?_
      rintro e w0 ⟨rfl, rfl⟩
      clear hKy
      go_wp2_with fail
      refine (hn1 _).mono ?_
      rintro e w1 ⟨rfl, rfl⟩
      clear hn1
      go_wp2
      refine bodyPost_ret (v := .tuple #[.agg #[.string ⟨#[]⟩, .int .u64 0, .int .u64 0, .int .u8 0], .int .i64 E1, .int .i64 2]) (by simp [results, Tryz.results66, go_sem]) rfl ⟨?_, ?_⟩
      · exact ret_rule (r := Rl0) ((hR1.out h1).symm)
      · repeat (first | exact Ext.refl _ | assumption | apply Ext.drew | apply Ext.alloc | (refine Ext.setCell ?_ (by simp <;> omega) _) | refine Ext.trans ?_ (by assumption))
  · have hkk : kRight (ts.getD 1 []) = false := by simpa using hkk
    have hR := Lib.hid (rpar_key h5 h0 hkk)
    rw [hkk] at hKy
    clear h0 hkk hc hl
    generalize rpar ts = RP at *
    generalize strOf sRule = S0 at *
    generalize strOf (ts.getD 1 []) = PR at *
    go_enter Tryz.func66, Tryz.ntmps66
    go_wp2_with fail
    refine (hKy _).mono ?_
    rintro e w0 ⟨rfl, rfl⟩
    clear hKy
    go_wp2
    refine bodyPost_ret (v := .tuple #[.agg #[.string ⟨#[]⟩, .int .u64 0, .int .u64 0, .int .u8 0], .int .i64 23, .int .i64 1]) (by simp [results, Tryz.results66, go_sem]) rfl ⟨?_, ?_⟩
    · exact ret_rule (r := Rl0) (hR.out.symm)
    · repeat (first | exact Ext.refl _ | assumption | apply Ext.drew | apply Ext.alloc | (refine Ext.setCell ?_ (by simp <;> omega) _) | refine Ext.trans ?_ (by assumption))

set_option maxRecDepth 100000 in
set_option maxHeartbeats 3200000 in
theorem rRuleN (ts : List (List UInt8)) (g cp : Nat) (hcp : ts.length ≤ cp) (hl : ∀ i, (ts.getD i []).length ≤ 1000000) (hno1 : ¬ (ts.length = 4 ∧ ts.getD 0 [] = sDefault)) (hno2 : ¬ (ts.length = 5 ∧ ts.getD 0 [] = sRule)) (w : World) (hc : StrsAt w g ts) :
    Calls Tryz.prog 66 #[.slice (some ⟨g, 0, none⟩) ts.length cp] w fun e w' => e = .returned (.tuple #[rlV (rpar ts).1, .int .i64 (rpar ts).2.1, .int .i64 (rpar ts).2.2]) ∧ Ext w w' := by
  have hR := Lib.hid (rpar_no (ws := ts) hno1 hno2)
  generalize rpar ts = RP at *
  by_cases h4 : ts.length = 4
  · have c0 := hc 0 (by omega)
    have hgs : g < w.heap.size := World.block_lt_of_cell? w _ c0
    have hs0 : ((strOf (ts.getD 0 [])).toList == [100, 101, 102, 97, 117, 108, 116]) = false := by rw [strOf_eq]; exact decide_eq_false (fun h => hno1 ⟨h4, h⟩)
    rw [h4] at hcp ⊢
    generalize strOf (ts.getD 0 []) = S0 at *
    clear hno1 hno2 hl hc
    go_enter Tryz.func66, Tryz.ntmps66
    go_wp2
    refine bodyPost_ret (v := .tuple #[.agg #[.string ⟨#[]⟩, .int .u64 0, .int .u64 0, .int .u8 0], .int .i64 22, .int .i64 0]) (by simp [results, Tryz.results66, go_sem]) rfl ⟨?_, ?_⟩
    · exact ret_rule (r := Rl0) (hR.out.symm)
    · repeat (first | exact Ext.refl _ | assumption | apply Ext.drew | apply Ext.alloc | (refine Ext.setCell ?_ (by simp <;> omega) _) | refine Ext.trans ?_ (by assumption))
  · by_cases h5 : ts.length = 5
    · have c0 := hc 0 (by omega)
      have hgs : g < w.heap.size := World.block_lt_of_cell? w _ c0
      have hs0 : ((strOf (ts.getD 0 [])).toList == [114, 117, 108, 101]) = false := by rw [strOf_eq]; exact decide_eq_false (fun h => hno2 ⟨h5, h⟩)
      rw [h5] at hcp ⊢
      generalize strOf (ts.getD 0 []) = S0 at *
      clear hno1 hno2 hl hc
      go_enter Tryz.func66, Tryz.ntmps66
      go_wp2
      refine bodyPost_ret (v := .tuple #[.agg #[.string ⟨#[]⟩, .int .u64 0, .int .u64 0, .int .u8 0], .int .i64 22, .int .i64 0]) (by simp [results, Tryz.results66, go_sem]) rfl ⟨?_, ?_⟩
      · exact ret_rule (r := Rl0) (hR.out.symm)
      · repeat (first | exact Ext.refl _ | assumption | apply Ext.drew | apply Ext.alloc | (refine Ext.setCell ?_ (by simp <;> omega) _) | refine Ext.trans ?_ (by assumption))
    · have e4 : ((ts.length : Int) == 4) = false := beq_eq_false_iff_ne.2 (by omega)
      have e5 : ((ts.length : Int) == 5) = false := beq_eq_false_iff_ne.2 (by omega)
      generalize ts.length = n at *
      clear hno1 hno2 hl hc
      go_enter Tryz.func66, Tryz.ntmps66
      go_wp2
      refine bodyPost_ret (v := .tuple #[.agg #[.string ⟨#[]⟩, .int .u64 0, .int .u64 0, .int .u8 0], .int .i64 22, .int .i64 0]) (by simp [results, Tryz.results66, go_sem]) rfl ⟨?_, ?_⟩
      · exact ret_rule (r := Rl0) (hR.out.symm)
      · repeat (first | exact Ext.refl _ | assumption | apply Ext.drew | apply Ext.alloc | (refine Ext.setCell ?_ (by simp <;> omega) _) | refine Ext.trans ?_ (by assumption))

theorem rRule (ts : List (List UInt8)) (g cp : Nat) (hcp : ts.length ≤ cp) (hl : ∀ i, (ts.getD i []).length ≤ 1000000) (w : World) (hc : StrsAt w g ts) :
    Calls Tryz.prog 66 #[.slice (some ⟨g, 0, none⟩) ts.length cp] w fun e w' => e = .returned (.tuple #[rlV (rpar ts).1, .int .i64 (rpar ts).2.1, .int .i64 (rpar ts).2.2]) ∧ Ext w w' := by
  by_cases h1 : ts.length = 4 ∧ ts.getD 0 [] = sDefault
  · exact rRuleD ts g cp hcp hl h1.1 h1.2 w hc
  by_cases h2 : ts.length = 5 ∧ ts.getD 0 [] = sRule
  · exact rRuleR ts g cp hcp hl h2.1 h2.2 w hc
  exact rRuleN ts g cp hcp hl h1 h2 w hc

end Go.Proofs.YtdgcgpapcbjfhaaGreatDoor
