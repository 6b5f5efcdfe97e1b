/- Digits, names and rules, as the document prints them. -/
import Derived.Test.YtdgcgpapcbjfhaaGreatDoorJ08Srt
import Derived.Test.YtdgcgpapcbjfhaaGreatDoorJ40KernelD
import Derived.Test.YtdgcgpapcbjfhaaGreatDoorJ07NumMore
import Derived.Test.YtdgcgpapcbjfhaaGreatDoorJ04Lines
import Derived.Test.YtdgcgpapcbjfhaaGreatDoorJ13RuleRW
import Derived.Test.YtdgcgpapcbjfhaaGreatDoorJ03DigR
import Derived.Test.YtdgcgpapcbjfhaaGreatDoorJ14CfgO
set_option linter.unusedVariables false
set_option linter.unusedSimpArgs false

/- rule.Right and rule.Cap of a rule that is right. -/
namespace Go.Proofs.YtdgcgpapcbjfhaaGreatDoor
open Go.RowKit

theorem pAsk2 (r : Rl) (h : 0 < r.ev) (w : World) : Calls Tryz.prog 193 #[rlV r] w fun e w' => e = .returned (.bool true) ∧ Ext w w' := by
  unfold rlV
  go_enter Tryz.func193, Tryz.ntmps193
  go_wp2
  go_ret
  exact ⟨by simp <;> omega, by repeat (first | exact Ext.refl _ | assumption | apply Ext.drew | apply Ext.alloc | (refine Ext.setCell ?_ (by simp <;> omega) _) | refine Ext.trans ?_ (by assumption))⟩

theorem pAsk3 (r : Rl) (h : 0 < r.bu) (w : World) : Calls Tryz.prog 194 #[rlV r] w fun e w' => e = .returned (.bool true) ∧ Ext w w' := by
  unfold rlV
  go_enter Tryz.func194, Tryz.ntmps194
  go_wp2
  go_ret
  exact ⟨by simp <;> omega, by repeat (first | exact Ext.refl _ | assumption | apply Ext.drew | apply Ext.alloc | (refine Ext.setCell ?_ (by simp <;> omega) _) | refine Ext.trans ?_ (by assumption))⟩

theorem pAsk4 (r : Rl) (hu : U r.ev) (hu2 : U r.bu) (h : umul r.ev r.bu ≤ 4611686018427387904) (w : World) : Calls Tryz.prog 195 #[rlV r] w fun e w' => e = .returned (.bool true) ∧ Ext w w' := by
  unfold rlV
  go_enter Tryz.func195, Tryz.ntmps195
  go_wp2_with fail
  refine (nMul r.ev r.bu hu hu2 _).mono ?_
  rintro e w1 ⟨rfl, h1⟩
  go_wp2
  go_ret
  exact ⟨by simp <;> omega, by repeat (first | exact Ext.refl _ | assumption | apply Ext.drew | apply Ext.alloc | (refine Ext.setCell ?_ (by simp <;> omega) _) | refine Ext.trans ?_ (by assumption))⟩

theorem pAsk5 (r : Rl) (h1 : 1 ≤ r.kd) (h3 : r.kd ≤ 3) (w : World) : Calls Tryz.prog 196 #[rlV r] w fun e w' => e = .returned (.bool true) ∧ Ext w w' := by
  unfold rlV
  go_enter Tryz.func196, Tryz.ntmps196
  go_wp2_with fail
  refine (kIsRight r.kd _).mono ?_
  rintro e w1 ⟨rfl, hx1⟩
  go_wp2
  go_ret
  exact ⟨by rcases (show r.kd = 1 ∨ r.kd = 2 ∨ r.kd = 3 by omega) with h | h | h <;> (rw [h]; rfl), by repeat (first | exact Ext.refl _ | assumption | apply Ext.drew | apply Ext.alloc | (refine Ext.setCell ?_ (by simp <;> omega) _) | refine Ext.trans ?_ (by assumption))⟩

theorem pAsk1 (r : Rl) (h : r.pre = [] ∨ kRight r.pre = true) (w : World) : Calls Tryz.prog 192 #[rlV r] w fun e w' => e = .returned (.bool true) ∧ Ext w w' := by
  obtain ⟨S, hS⟩ : ∃ S, strOf r.pre = S := ⟨_, rfl⟩
  unfold rlV
  rw [hS]
  by_cases hp : S = ⟨#[]⟩
  · subst hp
    go_enter Tryz.func192, Tryz.ntmps192
    go_wp2
    go_ret
    exact ⟨rfl, by repeat (first | exact Ext.refl _ | assumption | apply Ext.drew | apply Ext.alloc | (refine Ext.setCell ?_ (by simp <;> omega) _) | refine Ext.trans ?_ (by assumption))⟩
  · have hk : kRight (bs S) = true := by
      rcases h with h | h
      · rw [h] at hS; exact absurd hS.symm hp
      · rw [← hS, bs_strOf]; exact h
    have hbq : (S == (⟨#[]⟩ : ByteArray)) = false := by
      have h1 : (S == (⟨#[]⟩ : ByteArray)) = (S.data == #[]) := rfl
      rw [h1, Bool.eq_false_iff]; intro hh; have h2 : S.data = #[] := by simpa using hh
      exact hp (by cases S; simp at h2; rw [h2])
    go_enter Tryz.func192, Tryz.ntmps192
    go_wp2_with fail
    · go_ret
      exact ⟨rfl, by repeat (first | exact Ext.refl _ | assumption | apply Ext.drew | apply Ext.alloc | (refine Ext.setCell ?_ (by simp <;> omega) _) | refine Ext.trans ?_ (by assumption))⟩
    · refine (pKey S _).mono ?_
      rintro e w1 ⟨rfl, hx1⟩
      rw [hk]
      go_wp2
      go_ret
      exact ⟨rfl, by repeat (first | exact Ext.refl _ | assumption | apply Ext.drew | apply Ext.alloc | (refine Ext.setCell ?_ (by simp <;> omega) _) | refine Ext.trans ?_ (by assumption))⟩

def fnAsk (i : Nat) : Value := .func (.func (192 + i)) #[] #[]

theorem pAsks (w : World) : Calls Tryz.prog 158 #[] w fun e w' => ∃ g, e = .returned (.slice (some ⟨g, 0, none⟩) 5 5) ∧ (∀ i, i < 5 → w'.cell? ⟨g, 2 * i, none⟩ = some (fnAsk i) ∧ w'.cell? ⟨g, 2 * i + 1, none⟩ = some (.int .u16 (23 + i))) ∧ Ext w w' := by
  go_enter Tryz.func158, Tryz.ntmps158
  go_wp2
  go_ret
  refine ⟨w.heap.size, rfl, ?_, by repeat (first | exact Ext.refl _ | assumption | apply Ext.drew | apply Ext.alloc | (refine Ext.setCell ?_ (by simp <;> omega) _) | refine Ext.trans ?_ (by assumption))⟩
  intro i hi
  rcases (show i = 0 ∨ i = 1 ∨ i = 2 ∨ i = 3 ∨ i = 4 by omega) with rfl | rfl | rfl | rfl | rfl <;> exact ⟨by go_simp; try rfl, by go_simp; try rfl⟩

theorem pRuleRight (r : Rl) (h : okR r) (w : World) : Calls Tryz.prog 121 #[rlV r] w fun e w' => e = .returned (.int .u16 0) ∧ Ext w w' := by
  obtain ⟨hp, hu, hu2, k3, k1, he, hb, hm⟩ := h
  have he2 : 0 < r.ev := by unfold U at hu; omega
  have hb2 : 0 < r.bu := by unfold U at hu2; omega
  have q1 := pAsk1 r hp
  have q2 := pAsk2 r he2
  have q3 := pAsk3 r hb2
  have q4 := pAsk4 r hu hu2 hm
  have q5 := pAsk5 r k1 k3
  clear hp hu hu2 k3 k1 he hb hm he2 hb2
  unfold rlV at *
  go_enter Tryz.func121, Tryz.ntmps121
  go_wp2_with fail
  refine (pAsks _).mono ?_
  rintro e W ⟨g, rfl, hc, hx⟩
  have hx0 : Ext w W := Ext.trans ((Ext.refl w).alloc _) hx
  have d0 : W.cell? ⟨w.heap.size, 0, none⟩ = some (.string (strOf r.pre)) := hx.reads (by go_simp)
  have d1 : W.cell? ⟨w.heap.size, 1, none⟩ = some (.int .u64 r.ev) := hx.reads (by go_simp)
  have d2 : W.cell? ⟨w.heap.size, 2, none⟩ = some (.int .u64 r.bu) := hx.reads (by go_simp)
  have d3 : W.cell? ⟨w.heap.size, 3, none⟩ = some (.int .u8 (r.kd : Int)) := hx.reads (by go_simp)
  obtain ⟨B, hB⟩ : ∃ B, w.heap.size = B := ⟨_, rfl⟩
  have hx0H := Lib.hid hx0
  clear hx hx0
  rw [hB] at d0 d1 d2 d3
  go_wp2
  clear hB
  go_loopw [7] (fun i wr => ∃ k : Nat, k ≤ 5 ∧ i = .int .i64 k ∧ Ext W wr) (fun i _ => 5 - (intOf i).toNat)
  case atStart => exact ⟨0, by omega, rfl, Ext.refl _⟩
  case round =>
    obtain ⟨k, hk, rfl, hxr⟩ := hrel
    have e0 := hxr.reads d0
    have e1 := hxr.reads d1
    have e2 := hxr.reads d2
    have e3 := hxr.reads d3
    have hBl : B < wr.heap.size := World.block_lt_of_cell? wr _ e0
    clear d0 d1 d2 d3
    by_cases hk5 : k = 5
    · subst hk5
      go_wp2
      go_ret
      exact ⟨rfl, hx0H.out.trans hxr⟩
    · have a0 := hxr.reads (hc k (by omega)).1
      have a1 := hxr.reads (hc k (by omega)).2
      clear hc
      rcases (show k = 0 ∨ k = 1 ∨ k = 2 ∨ k = 3 ∨ k = 4 by omega) with rfl | rfl | rfl | rfl | rfl
      · simp only [fnAsk] at a0 a1
        go_wp2_with fail
        refine (q1 _).mono ?_
        rintro e w9 ⟨rfl, hx9⟩
        have hE : Hid (Ext W w9) := Lib.hid (hxr.trans (by repeat (first | exact Ext.refl _ | assumption | apply Ext.drew | apply Ext.alloc | (refine Ext.setCell ?_ (by simp <;> omega) _) | refine Ext.trans ?_ (by assumption))))
        clear hxr hx9 a0 a1 e0 e1 e2 e3
        go_wp2
        go_roundw
        case rel => exact ⟨1, by omega, by go_num, hE.out⟩
        case measure => (simp [intOf]) <;> omega
      · simp only [fnAsk] at a0 a1
        go_wp2_with fail
        refine (q2 _).mono ?_
        rintro e w9 ⟨rfl, hx9⟩
        have hE : Hid (Ext W w9) := Lib.hid (hxr.trans (by repeat (first | exact Ext.refl _ | assumption | apply Ext.drew | apply Ext.alloc | (refine Ext.setCell ?_ (by simp <;> omega) _) | refine Ext.trans ?_ (by assumption))))
        clear hxr hx9 a0 a1 e0 e1 e2 e3
        go_wp2
        go_roundw
        case rel => exact ⟨2, by omega, by go_num, hE.out⟩
        case measure => (simp [intOf]) <;> omega
      · simp only [fnAsk] at a0 a1
        go_wp2_with fail
        refine (q3 _).mono ?_
        rintro e w9 ⟨rfl, hx9⟩
        have hE : Hid (Ext W w9) := Lib.hid (hxr.trans (by repeat (first | exact Ext.refl _ | assumption | apply Ext.drew | apply Ext.alloc | (refine Ext.setCell ?_ (by simp <;> omega) _) | refine Ext.trans ?_ (by assumption))))
        clear hxr hx9 a0 a1 e0 e1 e2 e3
        go_wp2
        go_roundw
        case rel => exact ⟨3, by omega, by go_num, hE.out⟩
        case measure => (simp [intOf]) <;> omega
      · simp only [fnAsk] at a0 a1
        go_wp2_with fail
        refine (q4 _).mono ?_
        rintro e w9 ⟨rfl, hx9⟩
        have hE : Hid (Ext W w9) := Lib.hid (hxr.trans (by repeat (first | exact Ext.refl _ | assumption | apply Ext.drew | apply Ext.alloc | (refine Ext.setCell ?_ (by simp <;> omega) _) | refine Ext.trans ?_ (by assumption))))
        clear hxr hx9 a0 a1 e0 e1 e2 e3
        go_wp2
        go_roundw
        case rel => exact ⟨4, by omega, by go_num, hE.out⟩
        case measure => (simp [intOf]) <;> omega
      · simp only [fnAsk] at a0 a1
        go_wp2_with fail
        refine (q5 _).mono ?_
        rintro e w9 ⟨rfl, hx9⟩
        have hE : Hid (Ext W w9) := Lib.hid (hxr.trans (by repeat (first | exact Ext.refl _ | assumption | apply Ext.drew | apply Ext.alloc | (refine Ext.setCell ?_ (by simp <;> omega) _) | refine Ext.trans ?_ (by assumption))))
        clear hxr hx9 a0 a1 e0 e1 e2 e3
        go_wp2
        go_roundw
        case rel => exact ⟨5, by omega, by go_num, hE.out⟩
        case measure => (simp [intOf]) <;> omega

set_option maxHeartbeats 800000 in
theorem pCap (r : Rl) (h : okR r) (w : World) : Calls Tryz.prog 124 #[rlV r] w fun e w' => e = .returned (.int .u64 (r.ev * r.bu)) ∧ U (r.ev * r.bu) ∧ Ext w w' := by
  have q := pRuleRight r h
  obtain ⟨hp, hu, hu2, k3, k1, he, hb, hm⟩ := h
  have hU : U (r.ev * r.bu) := by
    unfold umul mulH mulL at hm
    unfold U at hu hu2 ⊢
    have h0 : 0 ≤ r.ev * r.bu := Int.mul_nonneg hu.1 hu2.1
    generalize r.ev * r.bu = q at *
    split at hm <;> omega
  have hw : IntKind.u64.wrap (r.ev * r.bu) = r.ev * r.bu := by obtain ⟨h0, h1⟩ := hU; rw [IntKind.wrap_u64]; generalize r.ev * r.bu = q at *; omega
  clear hp k3 k1 he hb hm
  unfold rlV at *
  go_enter Tryz.func124, Tryz.ntmps124
  go_wp2_with fail
  refine (q _).mono ?_
  rintro e w1 ⟨rfl, hx1⟩
  have c1 : w1.cell? ⟨w.heap.size, 1, none⟩ = some (.int .u64 r.ev) := hx1.reads (by go_simp)
  have c2 : w1.cell? ⟨w.heap.size, 2, none⟩ = some (.int .u64 r.bu) := hx1.reads (by go_simp)
  go_wp2
  go_ret
  exact ⟨rfl, hU, by repeat (first | exact Ext.refl _ | assumption | apply Ext.drew | apply Ext.alloc | (refine Ext.setCell ?_ (by simp <;> omega) _) | refine Ext.trans ?_ (by assumption))⟩

end Go.Proofs.YtdgcgpapcbjfhaaGreatDoor

/- Digits, names and rules, as the document prints them. -/
namespace Go.Proofs.YtdgcgpapcbjfhaaGreatDoor
open Go.RowKit

/-- digits ahead of s -/
def pr (n : Nat) (s : ByteArray) : ByteArray := if h : n = 0 then s else pr (n / 10) ((⟨#[48, 49, 50, 51, 52, 53, 54, 55, 56, 57]⟩ : ByteArray).extract (n % 10) (n % 10 + 1) ++ s)
  termination_by n
  decreasing_by omega
def prt (n : Nat) : ByteArray := pr (n / 10) ((⟨#[48, 49, 50, 51, 52, 53, 54, 55, 56, 57]⟩ : ByteArray).extract (n % 10) (n % 10 + 1))
theorem pr_0 (s : ByteArray) : pr 0 s = s := by unfold pr; simp
theorem pr_pos {n : Nat} (h : n ≠ 0) (s : ByteArray) : pr n s = pr (n / 10) ((⟨#[48, 49, 50, 51, 52, 53, 54, 55, 56, 57]⟩ : ByteArray).extract (n % 10) (n % 10 + 1) ++ s) := by
  rw [pr]; simp [h]
theorem dig1 (k : Nat) (h : k < 10) : ((⟨#[48, 49, 50, 51, 52, 53, 54, 55, 56, 57]⟩ : ByteArray).extract k (k + 1)).size = 1 := by
  rw [ByteArray.size_extract]
  show min (k + 1) 10 - k = 1
  omega
theorem pr_size : ∀ (m n : Nat) (s : ByteArray), n < 10 ^ m → (pr n s).size ≤ s.size + m
  | 0, n, s, h => by
    have : n = 0 := by simpa using h
    subst this
    rw [pr_0]; omega
  | m + 1, n, s, h => by
    by_cases hn : n = 0
    · subst hn; rw [pr_0]; omega
    · rw [pr_pos hn]
      have h2 : n / 10 < 10 ^ m := by rw [Nat.pow_succ] at h; omega
      have := pr_size m (n / 10) ((⟨#[48, 49, 50, 51, 52, 53, 54, 55, 56, 57]⟩ : ByteArray).extract (n % 10) (n % 10 + 1) ++ s) h2
      rw [ByteArray.size_append, dig1 _ (Nat.mod_lt _ (by omega))] at this
      omega
theorem pr_ge : ∀ (m n : Nat) (s : ByteArray), n ≤ m → s.size ≤ (pr n s).size
  | 0, n, s, h => by
    have : n = 0 := by omega
    subst this; rw [pr_0]; exact Nat.le_refl _
  | m + 1, n, s, h => by
    by_cases hn : n = 0
    · subst hn; rw [pr_0]; exact Nat.le_refl _
    · rw [pr_pos hn]
      have := pr_ge m (n / 10) ((⟨#[48, 49, 50, 51, 52, 53, 54, 55, 56, 57]⟩ : ByteArray).extract (n % 10) (n % 10 + 1) ++ s) (by omega)
      rw [ByteArray.size_append] at this
      omega
theorem prt_size (n : Nat) (h : n ≤ 18446744073709551615) : (prt n).size ≤ 20 := by
  have := pr_size 19 (n / 10) ((⟨#[48, 49, 50, 51, 52, 53, 54, 55, 56, 57]⟩ : ByteArray).extract (n % 10) (n % 10 + 1)) (by rw [show (10 : Nat) ^ 19 = 10000000000000000000 by decide]; omega)
  rw [dig1 _ (Nat.mod_lt _ (by omega))] at this
  unfold prt
  omega

set_option maxHeartbeats 1600000 in
theorem rPrint3 (n : Nat) (hn : n ≤ 18446744073709551615) (w : World) :
    Calls Tryz.prog 8 #[.int .u64 n] w fun e w' => e = .returned (.string (prt n)) ∧ w = w' := by
  have l1 : n % 10 < 10 := Nat.mod_lt _ (by omega)
  have hTs := prt_size n hn
  have hT := Lib.hid (show prt n = pr (n / 10) ((⟨#[48, 49, 50, 51, 52, 53, 54, 55, 56, 57]⟩ : ByteArray).extract (n % 10) (n % 10 + 1)) from rfl)
  generalize prt n = T at *
  go_enter Tryz.func8, Tryz.ntmps8
  go_wp2
  go_loop [0, 3] (fun x s => ∃ (k : Nat) (S : ByteArray), x = .int .u64 k ∧ s = .string S ∧ Hid (pr k S = T) ∧ k ≤ 18446744073709551615) (fun x _ => (intOf x).toNat)
  case atStart => exact ⟨n / 10, _, by go_num, rfl, Lib.hid hT.out.symm, by omega⟩
  case round =>
    obtain ⟨k, S, rfl, rfl, hP, hk⟩ := hrel
    have l1 : k % 10 < 10 := Nat.mod_lt _ (by omega)
    by_cases h0 : k = 0
    · subst h0
      go_wp2
      go_ret
      exact ⟨by rw [← hP.out, pr_0]; rfl, rfl⟩
    · have hP2 := Lib.hid ((pr_pos h0 S).symm.trans hP.out)
      have hkp : 0 < (k : Int) := by omega
      have hE := dig1 (k % 10) l1
      have hSs : S.size ≤ T.size := by have := pr_ge k k S (Nat.le_refl _); rw [hP.out] at this; exact this
      have hn9 : ¬ 9223372036854775807 < 1 + S.size := by omega
      clear hP hT
      go_wp2
      go_round
      case rel => exact ⟨k / 10, _, by go_num, rfl, Lib.hid hP2.out, by omega⟩
      case measure => simp [intOf]; omega

theorem r7Right (k : Int) (w : World) (h1 : 1 ≤ k) (h3 : k ≤ 3) : Calls Tryz.prog 75 #[.int .u8 k] w fun e w' => e = .returned (.bool true) ∧ w = w' := by
  go_enter Tryz.func75, Tryz.ntmps75
  go_wp2
  go_ret
  exact ⟨rfl, rfl⟩

theorem rRight11 (r : Rl) (h : okR r) (w : World) : Calls Tryz.prog 45 #[rlV r] w fun e w' => e = .returned (.int .i64 0) ∧ Ext w w' := by
  obtain ⟨hp, hu, hu2, k3, k1, he, hb, hm⟩ := h
  have he2 : (r.ev == 0) = false := beq_eq_false_iff_ne.2 he
  have hb2 : (r.bu == 0) = false := beq_eq_false_iff_ne.2 hb
  have hK := fun W => rKey (strOf r.pre) W
  rw [bs_strOf] at hK
  have hM := fun W => r2Mul r.ev r.bu hu hu2 W
  have h7 := fun W => r7Right (r.kd : Int) W (by omega) (by omega)
  have hmH := Lib.hid hm
  unfold rlV
  by_cases hq : r.pre = []
  · have hq2 : strOf r.pre = ⟨#[]⟩ := by rw [hq]; rfl
    rw [hq2] at *
    go_enter Tryz.func45, Tryz.ntmps45
    go_wp2_with fail
    refine (hM _).mono ?_
    rintro e w1 ⟨rfl, rfl⟩
    go_wp2_with fail
    refine (h7 _).mono ?_
    rintro e w1 ⟨rfl, rfl⟩
    go_wp2
    go_ret
    exact ⟨rfl, by repeat (first | exact Ext.refl _ | assumption | apply Ext.drew | apply Ext.alloc | (refine Ext.setCell ?_ (by simp <;> omega) _) | refine Ext.trans ?_ (by assumption))⟩
  · have hk : kRight r.pre = true := hp.resolve_left hq
    rw [hk] at hK
    have hq2 : (strOf r.pre).toList.isEmpty = false := by
      rw [toList_bs, bs_strOf]
      cases h : r.pre with
      | nil => exact absurd h hq
      | cons a l => rfl
    go_enter Tryz.func45, Tryz.ntmps45
    go_wp2_with fail
    refine (hK _).mono ?_
    rintro e w1 ⟨rfl, rfl⟩
    go_wp2_with fail
    refine (hM _).mono ?_
    rintro e w1 ⟨rfl, rfl⟩
    go_wp2_with fail
    refine (h7 _).mono ?_
    rintro e w1 ⟨rfl, rfl⟩
    go_wp2
    go_ret
    exact ⟨rfl, by repeat (first | exact Ext.refl _ | assumption | apply Ext.drew | apply Ext.alloc | (refine Ext.setCell ?_ (by simp <;> omega) _) | refine Ext.trans ?_ (by assumption))⟩

end Go.Proofs.YtdgcgpapcbjfhaaGreatDoor
