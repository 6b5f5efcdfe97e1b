/- past: Conforms, Decide, Rises. -/
import Derived.Test.YtfabgfenelaheaaPastFill
import Derived.Test.YtfabgfenelaheaaPastApp
import Derived.Test.YtfabgfenelaheaaPastRef
import Derived.RegionTactic
import Derived.Deep.RegionHeld3
import Derived.Deep.QuietTactic
import Derived.BigQuiet
import Derived.IntWalk
set_option linter.unusedVariables false
namespace Go.Proofs.Ytfabgfenelaheaa
open Go.RowKit

attribute [local go_sem] ite_min ite_max

theorem w64 (k : Nat) (h : k + 1 ≤ 9223372036854775807) : wrap64 ((k : Int) + 1) = (k : Int) + 1 ∧ IntKind.i64.wrap ((k : Int) + 1) = (k : Int) + 1 := by
  have h1 : (k : Int) + 1 ≤ 9223372036854775807 := by omega
  have h0 : (0 : Int) ≤ (k : Int) := by omega
  exact ⟨IntWalk.wrap64_in _ ⟨by omega, h1⟩, IntWalk.i64_in _ ⟨by omega, h1⟩⟩

set_option maxHeartbeats 1000000 in
theorem pConforms (a : Option Addr) (len cap : Nat) (L : List (Int × Int)) (c : Int) (hn : U c) (w : World) (hI : IsEv w a len cap L) :
    Calls Try.prog 24 #[.slice a len cap, .int .u64 c] w fun e w' => e = .returned (.bool (pconf L c)) ∧ Ext w w' := by
  obtain rfl := hI.1
  have hmax : L.length ≤ maxLen := Nat.le_trans hI.2.1.1 hI.2.1.2.1
  have hcap := hI.2.1.1
  have hcap2 := hI.2.1.2.1
  rw [maxLen_lit] at hmax hcap2
  have HI := Lib.hid hI
  have HU := Lib.hid hI.2.2.1
  have HC : Hid (pconf L c = decide (∀ j, j < L.length → pfill (L.take (j + 1)) (L.getD j (0, 0)).1 ≤ c)) := Lib.hid rfl
  obtain ⟨hn1, hn2⟩ := hn
  clear hI
  go_enter Try.func24, Try.ntmps24
  go_wp2
  go_loopw [9] (fun i wr => ∃ k : Nat, k ≤ L.length ∧ i = .int .i64 k ∧ Hid (∀ i, i < k → pfill (L.take (i + 1)) (L.getD i (0, 0)).1 ≤ c) ∧ Ext w wr) (fun i _ => L.length - (intOf i).toNat)
  case atStart => exact ⟨0, by omega, rfl, Lib.hid (fun i h => by omega), Ext.refl _⟩
  case round =>
    obtain ⟨k, hk, rfl, hM, hx⟩ := hrel
    by_cases hlt : k < L.length
    · obtain ⟨b, off, rfl, hc⟩ := HI.out.at (by omega)
      have c0 := hx.reads (hc k hlt).1
      have c1 := hx.reads (hc k hlt).2
      have hE := (HU.out k (by omega)).1
      have hP := pfill_U (UL.take HU.out (k + 1)) _ hE
      have hF := fun (wz : World) (hz : Ext w wz) => pFill _ _ _ (L.take (k + 1)) _ hE wz ((HI.out.below hz).take (by omega))
      obtain ⟨P, eP⟩ : ∃ x, pfill (L.take (k + 1)) (L.getD k (0, 0)).1 = x := ⟨_, rfl⟩
      rw [eP] at hP hF
      obtain ⟨x, ex⟩ : ∃ x, (L.getD k (0, 0)).1 = x := ⟨_, rfl⟩
      obtain ⟨y, ey⟩ : ∃ x, (L.getD k (0, 0)).2 = x := ⟨_, rfl⟩
      rw [ex] at c0 hE hF
      rw [ey] at c1
      have HP := Lib.hid eP
      have HF := Lib.hid hF
      have hl1 : (k : Int) < (L.length : Int) := by omega
      have hl2 : (k : Int) + 1 ≤ (cap : Int) := by omega
      have hl3 : (0 : Int) ≤ (k : Int) + 1 := by omega
      have HW := Lib.hid (w64 k (Nat.le_trans (Nat.le_trans hlt hcap) hcap2)).2
      clear hc eP ex ey hF
      by_cases hgt : P > c
      · have hw2 := HW.out
        go_wp2
        go_region_held3 (fun w' => w'.cell? ⟨wr.heap.size, 0, none⟩ = some (.int .u64 x) ∧ Ext w w')
          (first
            | (go_split_ands; exact ⟨hb.reads (by assumption), Ext.trans (by assumption) hb⟩)
            | (exact ⟨by go_simp, by repeat (first | exact Ext.refl _ | assumption | apply Ext.drew | apply Ext.alloc | (refine Ext.setCell ?_ (by simp <;> omega) _) | refine Ext.trans ?_ (by assumption))⟩))
          ((go_at_call 22; refine (HF.out _ (by go_split_ands; assumption)).mono ?_; rintro e w9 ⟨rfl, hb⟩))
        clear hw2
        go_wp2
        go_ret
        exact ⟨ret_bool (by rw [HC.out]; symm; rw [decide_eq_false_iff_not]; intro h; have := h k hlt; rw [HP.out] at this; omega), by repeat (first | exact Ext.refl _ | assumption | apply Ext.drew | apply Ext.alloc | (refine Ext.setCell ?_ (by simp <;> omega) _) | refine Ext.trans ?_ (by assumption))⟩
      · have hw2 := HW.out
        go_wp2
        go_region_held3 (fun w' => w'.cell? ⟨wr.heap.size, 0, none⟩ = some (.int .u64 x) ∧ Ext w w')
          (first
            | (go_split_ands; exact ⟨hb.reads (by assumption), Ext.trans (by assumption) hb⟩)
            | (exact ⟨by go_simp, by repeat (first | exact Ext.refl _ | assumption | apply Ext.drew | apply Ext.alloc | (refine Ext.setCell ?_ (by simp <;> omega) _) | refine Ext.trans ?_ (by assumption))⟩))
          ((go_at_call 22; refine (HF.out _ (by go_split_ands; assumption)).mono ?_; rintro e w9 ⟨rfl, hb⟩))
        clear hw2
        go_wp2
        go_roundw
        case rel => exact ⟨k + 1, by omega, by simp, Lib.hid (fun i h => by
          by_cases e : i = k
          · subst e; rw [HP.out]; omega
          · exact hM.out i (by omega)), by repeat (first | exact Ext.refl _ | assumption | apply Ext.drew | apply Ext.alloc | (refine Ext.setCell ?_ (by simp <;> omega) _) | refine Ext.trans ?_ (by assumption))⟩
        case measure => simp [intOf]; omega
    · obtain rfl : k = L.length := by omega
      go_wp2
      go_ret
      exact ⟨ret_bool (by rw [HC.out]; symm; rw [decide_eq_true_eq]; intro j hj; exact hM.out j hj), hx⟩

theorem cNaN (x : Int) (w : World) : Calls Try.prog 69 #[.int .u64 x] w fun e w' => e = .returned (.bool false) ∧ w = w' := by
  go_enter Try.func69, Try.ntmps69
  go_wp2
  go_ret
  exact ⟨rfl, rfl⟩

def cmp3 (x y : Int) : Int := if x < y then -1 else if y < x then 1 else 0

theorem cCompare (x y : Int) (w : World) : Calls Try.prog 52 #[.int .u64 x, .int .u64 y] w fun e w' => e = .returned (.int .i64 (cmp3 x y)) ∧ w = w' := by
  by_cases h1 : x < y
  · have hc : cmp3 x y = -1 := if_pos h1
    rw [hc]; clear hc
    go_enter Try.func52, Try.ntmps52
    go_wp2_with fail
    refine (cNaN x _).mono ?_
    rintro e w' ⟨rfl, rfl⟩
    go_wp2_with fail
    refine (cNaN y _).mono ?_
    rintro e w' ⟨rfl, rfl⟩
    go_wp2
    go_ret
    exact ⟨rfl, rfl⟩
  · by_cases h2 : y < x
    · have hc : cmp3 x y = 1 := by unfold cmp3; rw [if_neg h1, if_pos h2]
      rw [hc]; clear hc
      go_enter Try.func52, Try.ntmps52
      go_wp2_with fail
      refine (cNaN x _).mono ?_
      rintro e w' ⟨rfl, rfl⟩
      go_wp2_with fail
      refine (cNaN y _).mono ?_
      rintro e w' ⟨rfl, rfl⟩
      go_wp2
      go_ret
      exact ⟨rfl, rfl⟩
    · have hc : cmp3 x y = 0 := by unfold cmp3; rw [if_neg h1, if_neg h2]
      rw [hc]; clear hc
      go_enter Try.func52, Try.ntmps52
      go_wp2_with fail
      refine (cNaN x _).mono ?_
      rintro e w' ⟨rfl, rfl⟩
      go_wp2_with fail
      refine (cNaN y _).mono ?_
      rintro e w' ⟨rfl, rfl⟩
      go_wp2
      go_ret
      exact ⟨rfl, rfl⟩

theorem cRises1 (x x' y y' : Int) (w : World) : Calls Try.prog 51 #[.agg #[.int .u64 x, .int .u64 x'], .agg #[.int .u64 y, .int .u64 y']] w fun e w' => e = .returned (.int .i64 (cmp3 x y)) ∧ Ext w w' := by
  go_enter Try.func51, Try.ntmps51
  go_wp2_with fail
  refine (cCompare x y _).mono ?_
  rintro e w' ⟨rfl, rfl⟩
  go_wp2
  go_ret
  exact ⟨rfl, by repeat (first | exact Ext.refl _ | assumption | apply Ext.drew | apply Ext.alloc | (refine Ext.setCell ?_ (by simp <;> omega) _) | refine Ext.trans ?_ (by assumption))⟩

set_option maxHeartbeats 1000000 in
theorem sIsSorted (a : Option Addr) (len cap : Nat) (L : List (Int × Int)) (w : World) (hI : IsEv w a len cap L) :
    Calls Try.prog 50 #[.slice a len cap, .func (.func 51) #[] #[]] w fun e w' => e = .returned (.bool (prises L)) ∧ Ext w w' := by
  obtain rfl := hI.1
  have hmax : L.length ≤ maxLen := Nat.le_trans hI.2.1.1 hI.2.1.2.1
  rw [maxLen_lit] at hmax
  have HI := Lib.hid hI
  have HR : Hid (prises L = decide (∀ k, k < L.length - 1 → (L.getD k (0, 0)).1 ≤ (L.getD (k + 1) (0, 0)).1)) := Lib.hid rfl
  clear hI
  go_enter Try.func50, Try.ntmps50
  go_wp2
  go_loopw [5] (fun i wr => ∃ z : Int, i = .int .i64 z ∧ -1 ≤ z ∧ z < (L.length : Int) ∧ Hid (∀ j : Nat, z ≤ (j : Int) → j < L.length - 1 → (L.getD j (0, 0)).1 ≤ (L.getD (j + 1) (0, 0)).1) ∧ Ext w wr) (fun i _ => (intOf i).toNat)
  case atStart => exact ⟨_, rfl, by omega, by omega, Lib.hid (fun j h1 h2 => by omega), Ext.refl _⟩
  case round =>
    obtain ⟨z, rfl, hz1, hz2, hM, hx⟩ := hrel
    by_cases hlt : 0 < z
    · obtain ⟨k, rfl⟩ : ∃ k : Nat, z = (k : Int) + 1 := ⟨(z - 1).toNat, by omega⟩
      obtain ⟨b, off, rfl, hc⟩ := HI.out.at (by omega)
      have d0 := hx.reads (hc k (by omega)).1
      have d1 := hx.reads (hc k (by omega)).2
      have e0 := hx.reads (hc (k + 1) (by omega)).1
      have e1 := hx.reads (hc (k + 1) (by omega)).2
      obtain ⟨x, ex⟩ : ∃ x, (L.getD k (0, 0)).1 = x := ⟨_, rfl⟩
      obtain ⟨x', ex'⟩ : ∃ x, (L.getD k (0, 0)).2 = x := ⟨_, rfl⟩
      obtain ⟨y, ey⟩ : ∃ x, (L.getD (k + 1) (0, 0)).1 = x := ⟨_, rfl⟩
      obtain ⟨y', ey'⟩ : ∃ x, (L.getD (k + 1) (0, 0)).2 = x := ⟨_, rfl⟩
      rw [ex] at d0
      rw [ex'] at d1
      rw [ey] at e0
      rw [ey'] at e1
      have HX := Lib.hid ex
      have HY := Lib.hid ey
      have hl0 : (k : Int) < (L.length : Int) := by omega
      have hl3 : (0 : Int) ≤ (k : Int) := by omega
      have hl4 : (0 : Int) ≤ (k : Int) + 1 := by omega
      have HW := Lib.hid (show IntKind.i64.wrap (k : Int) = k from IntWalk.i64_in _ ⟨by omega, by omega⟩)
      clear hc ex ex' ey ey'
      by_cases hgt : y < x
      · have hcm : cmp3 y x = -1 := if_pos hgt
        have HCM := Lib.hid hcm
        clear hcm
        have hw2 := HW.out
        go_wp2
        go_region_held3 (fun w' => w'.cell? ⟨b, off + k * 2, none⟩ = some (.int .u64 x) ∧ w'.cell? ⟨b, off + k * 2 + 1, none⟩ = some (.int .u64 x') ∧ w'.cell? ⟨b, off + (k + 1) * 2, none⟩ = some (.int .u64 y) ∧ w'.cell? ⟨b, off + (k + 1) * 2 + 1, none⟩ = some (.int .u64 y') ∧ Ext w w')
          (first
            | (go_split_ands; exact ⟨hb.reads (by assumption), hb.reads (by assumption), hb.reads (by assumption), hb.reads (by assumption), Ext.trans (by assumption) hb⟩)
            | (exact ⟨by go_simp, by go_simp, by go_simp, by go_simp, by repeat (first | exact Ext.refl _ | assumption | apply Ext.drew | apply Ext.alloc | (refine Ext.setCell ?_ (by simp <;> omega) _) | refine Ext.trans ?_ (by assumption))⟩))
          ((go_at_call 51; refine (cRises1 y y' x x' _).mono ?_; rw [HCM.out]; rintro e w9 ⟨rfl, hb⟩))
        clear hw2
        go_wp2
        go_ret
        exact ⟨ret_bool (by rw [HR.out]; symm; rw [decide_eq_false_iff_not]; intro h; have := h k (by omega); rw [HX.out, HY.out] at this; omega), by repeat (first | exact Ext.refl _ | assumption | apply Ext.drew | apply Ext.alloc | (refine Ext.setCell ?_ (by simp <;> omega) _) | refine Ext.trans ?_ (by assumption))⟩
      · have hcm : 0 ≤ cmp3 y x := by unfold cmp3; rw [if_neg hgt]; split <;> omega
        obtain ⟨q, eq⟩ : ∃ q, cmp3 y x = q := ⟨_, rfl⟩
        rw [eq] at hcm
        have HCM := Lib.hid eq
        clear eq
        have hw2 := HW.out
        go_wp2
        go_region_held3 (fun w' => w'.cell? ⟨b, off + k * 2, none⟩ = some (.int .u64 x) ∧ w'.cell? ⟨b, off + k * 2 + 1, none⟩ = some (.int .u64 x') ∧ w'.cell? ⟨b, off + (k + 1) * 2, none⟩ = some (.int .u64 y) ∧ w'.cell? ⟨b, off + (k + 1) * 2 + 1, none⟩ = some (.int .u64 y') ∧ Ext w w')
          (first
            | (go_split_ands; exact ⟨hb.reads (by assumption), hb.reads (by assumption), hb.reads (by assumption), hb.reads (by assumption), Ext.trans (by assumption) hb⟩)
            | (exact ⟨by go_simp, by go_simp, by go_simp, by go_simp, by repeat (first | exact Ext.refl _ | assumption | apply Ext.drew | apply Ext.alloc | (refine Ext.setCell ?_ (by simp <;> omega) _) | refine Ext.trans ?_ (by assumption))⟩))
          ((go_at_call 51; refine (cRises1 y y' x x' _).mono ?_; rw [HCM.out]; rintro e w9 ⟨rfl, hb⟩))
        clear hw2
        go_wp2
        go_roundw
        case rel => exact ⟨k, by simp, by omega, by omega, Lib.hid (fun j h1 h2 => by
          by_cases e : j = k
          · subst e; rw [HX.out, HY.out]; omega
          · exact hM.out j (by omega) h2), by repeat (first | exact Ext.refl _ | assumption | apply Ext.drew | apply Ext.alloc | (refine Ext.setCell ?_ (by simp <;> omega) _) | refine Ext.trans ?_ (by assumption))⟩
        case measure => simp [intOf]
    · go_wp2
      go_ret
      exact ⟨ret_bool (by rw [HR.out]; symm; rw [decide_eq_true_eq]; intro i hi; exact hM.out i (by omega) hi), hx⟩

theorem pRises (a : Option Addr) (len cap : Nat) (L : List (Int × Int)) (w : World) (hI : IsEv w a len cap L) :
    Calls Try.prog 25 #[.slice a len cap] w fun e w' => e = .returned (.bool (prises L)) ∧ Ext w w' := by
  have HI := Lib.hid hI
  clear hI
  go_enter Try.func25, Try.ntmps25
  go_wp2_with fail
  refine (sIsSorted a len cap L _ HI.out).mono ?_
  rintro e w' ⟨rfl, hb⟩
  go_wp2
  go_ret
  exact ⟨rfl, by repeat (first | exact Ext.refl _ | assumption | apply Ext.drew | apply Ext.alloc | (refine Ext.setCell ?_ (by simp <;> omega) _) | refine Ext.trans ?_ (by assumption))⟩

end Go.Proofs.Ytfabgfenelaheaa
