/- The walk of the law PastParts. -/
import Derived.Test.YtfabgfenelaheaaPastEvt
set_option linter.unusedVariables false
namespace Go.Proofs.Ytfabgfenelaheaa
open Go.RowKit

attribute [local go_sem] ite_min ite_max

theorem ev_nil {w : World} {a : Option Addr} {cap : Nat} (h : a = none → cap = 0) (hc : cap ≤ maxLen) : IsEv w a 0 cap [] :=
  ⟨rfl, ⟨by omega, hc, h⟩, UL.nil, .inl rfl⟩

theorem nil_conf (c : Int) : pconf [] c = true := by rw [pconf_iff]; intro j hj; simp at hj

set_option maxRecDepth 20000 in
set_option maxHeartbeats 1000000 in
theorem pParts0 (a A' : Option Addr) (cap : Nat) (most more fr to : Int) (hA : a = none → cap = 0) (hcap : cap ≤ maxLen) (hm : U most) (hmo : 0 ≤ more ∧ more ≤ 4294967295) (hf : 0 ≤ fr ∧ fr ≤ 255) (ht : 0 ≤ to ∧ to ≤ 255) (w : World) :
    Calls Try.prog 26 #[.slice a 0 cap, .int .u64 most, .int .u32 more, .int .u8 fr, .int .u8 to] w fun e w' => e = .returned (.bool true) ∧ Ext w w' := by
  have hmo' : U more := by unfold U; omega
  have hs := uadd_U hm hmo'
  have hm' := hm
  obtain ⟨hm1, hm2⟩ := hm'
  obtain ⟨hmo1, hmo2⟩ := hmo
  obtain ⟨hf1, hf2⟩ := hf
  obtain ⟨ht1, ht2⟩ := ht
  have H0 := fun (w' : World) (b : Option Addr) (c : Nat) (h : b = none → c = 0) (hc : c ≤ maxLen) => pConforms b 0 c [] most hm w' (ev_nil h hc)
  have H1 := fun (w' : World) (b : Option Addr) (c : Nat) (h : b = none → c = 0) (hc : c ≤ maxLen) => pConforms b 0 c [] _ hs w' (ev_nil h hc)
  rw [nil_conf] at H0 H1
  have HH0 := Lib.hid H0
  have HH1 := Lib.hid H1
  have HC := Lib.hid hcap
  have HA := Lib.hid hA
  clear H0 H1 hcap hA
  have fin : ∀ (x y : Option Addr) (c : Nat), (x = none → cap = 0) → cap ≤ maxLen → (x = none → cap - 0 = 0) ∧ cap - 0 ≤ maxLen := fun x y c h h' => ⟨fun e => by have := h e; omega, by omega⟩
  cases a with
  | none =>
    have hc0 : cap = 0 := HA.out rfl
    subst hc0
    clear fin
    go_enter Try.func26, Try.ntmps26
    go_wp2_with fail
    refine (HH0.out _ none 0 (fun _ => rfl) (by omega)).mono ?_
    rintro e w1 ⟨rfl, hx1⟩
    go_wp2_with fail
    refine (HH0.out _ none 0 (fun _ => rfl) (by omega)).mono ?_
    rintro e w2 ⟨rfl, hx2⟩
    go_wp2_with fail
    refine (rAdd most more hm hmo' _).mono ?_
    rintro e w3 ⟨rfl, rfl⟩
    go_wp2_with fail
    refine (HH1.out _ none 0 (fun _ => rfl) (by omega)).mono ?_
    rintro e w3 ⟨rfl, hx3⟩
    go_wp2_with fail
    refine (HH0.out _ none 0 (fun _ => rfl) (by omega)).mono ?_
    rintro e w4 ⟨rfl, hx4⟩
    go_wp2
    go_ret
    exact ⟨rfl, by repeat (first | exact Ext.refl _ | assumption | apply Ext.drew | apply Ext.alloc | (refine Ext.setCell ?_ (by simp <;> omega) _) | refine Ext.trans ?_ (by assumption))⟩
  | some ad =>
    clear fin
    by_cases hc0 : cap = 0
    · subst hc0
      go_enter Try.func26, Try.ntmps26
      go_wp2_with fail
      refine (HH0.out _ (some ad) 0 (fun h => by cases h) (by omega)).mono ?_
      rintro e w1 ⟨rfl, hx1⟩
      go_wp2_with fail
      refine (HH0.out _ (some ad) 0 (fun h => by cases h) (by omega)).mono ?_
      rintro e w2 ⟨rfl, hx2⟩
      go_wp2_with fail
      refine (rAdd most more hm hmo' _).mono ?_
      rintro e w3 ⟨rfl, rfl⟩
      go_wp2_with fail
      refine (HH1.out _ (some ad) 0 (fun h => by cases h) (by omega)).mono ?_
      rintro e w3 ⟨rfl, hx3⟩
      go_wp2_with fail
      refine (HH0.out _ none 0 (fun _ => rfl) (by omega)).mono ?_
      rintro e w4 ⟨rfl, hx4⟩
      go_wp2
      go_ret
      exact ⟨rfl, by repeat (first | exact Ext.refl _ | assumption | apply Ext.drew | apply Ext.alloc | (refine Ext.setCell ?_ (by simp <;> omega) _) | refine Ext.trans ?_ (by assumption))⟩
    · go_enter Try.func26, Try.ntmps26
      go_wp2_with fail
      refine (HH0.out _ (some ad) cap (fun h => by cases h) HC.out).mono ?_
      rintro e w1 ⟨rfl, hx1⟩
      go_wp2_with fail
      refine (HH0.out _ _ cap (fun h => by cases h) HC.out).mono ?_
      rintro e w2 ⟨rfl, hx2⟩
      go_wp2_with fail
      refine (rAdd most more hm hmo' _).mono ?_
      rintro e w3 ⟨rfl, rfl⟩
      go_wp2_with fail
      refine (HH1.out _ (some ad) cap (fun h => by cases h) HC.out).mono ?_
      rintro e w3 ⟨rfl, hx3⟩
      go_wp2_with fail
      refine (HH0.out _ none 0 (fun _ => rfl) (by omega)).mono ?_
      rintro e w4 ⟨rfl, hx4⟩
      go_wp2
      go_ret
      exact ⟨rfl, by repeat (first | exact Ext.refl _ | assumption | apply Ext.drew | apply Ext.alloc | (refine Ext.setCell ?_ (by simp <;> omega) _) | refine Ext.trans ?_ (by assumption))⟩

set_option maxRecDepth 20000 in
set_option maxHeartbeats 2000000 in
theorem pParts1 (b off cap : Nat) (L : List (Int × Int)) (most more fr to : Int) (i d : Nat) (hi : fr % ((L.length : Int) + 1) = i) (hd : to % ((L.length : Int) - i + 1) = d) (hil : i ≤ L.length) (hdl : i + d ≤ L.length) (h0 : 0 < L.length) (h64 : L.length ≤ 64)
    (hm : U most) (hmo : 0 ≤ more ∧ more ≤ 4294967295) (hf : 0 ≤ fr ∧ fr ≤ 255) (ht : 0 ≤ to ∧ to ≤ 255) (w : World) (hI : IsEv w (some ⟨b, off, none⟩) L.length cap L) :
    Calls Try.prog 26 #[.slice (some ⟨b, off, none⟩) L.length cap, .int .u64 most, .int .u32 more, .int .u8 fr, .int .u8 to] w fun e w' => e = .returned (.bool true) ∧ Ext w w' := by
  have hmo' : U more := by unfold U; omega
  have hs := uadd_U hm hmo'
  have hm' := hm
  obtain ⟨hm1, hm2⟩ := hm'
  obtain ⟨hmo1, hmo2⟩ := hmo
  obtain ⟨hf1, hf2⟩ := hf
  obtain ⟨ht1, ht2⟩ := ht
  have hmax := Nat.le_trans hI.2.1.1 hI.2.1.2.1
  have hcap := hI.2.1.1
  have hcapm := hI.2.1.2.1
  have hUL := hI.2.2.1
  rw [maxLen_lit] at hmax hcapm
  obtain ⟨b', off', e', hc⟩ := hI.at h0
  cases e'
  have hlast := (hc (L.length - 1) (by omega)).1
  have hUe := (hUL (L.length - 1) (by omega)).1
  have q1 := fun h => pconf_part (L := L) (c := most) hm1 h i (i + d) hdl (by omega)
  have q2 := fun h => pconf_wide (L := L) (c := most) (c' := uadd most more) (by unfold uadd; omega) h
  have q3 := fun h => pconf_fine (L := L) (c := most) h h0
  obtain ⟨x, ex⟩ : ∃ x, (L.getD (L.length - 1) (0, 0)).1 = x := ⟨_, rfl⟩
  rw [ex] at hlast hUe q3
  have HI := Lib.hid hI
  have HL := Lib.hid hlast
  obtain ⟨P1, e1⟩ : ∃ x, pconf L most = x := ⟨_, rfl⟩
  obtain ⟨P2, e2⟩ : ∃ x, pconf ((L.take (i + d)).drop i) most = x := ⟨_, rfl⟩
  obtain ⟨P3, e3⟩ : ∃ x, pconf L (uadd most more) = x := ⟨_, rfl⟩
  obtain ⟨F, e4⟩ : ∃ y, pfill L x = y := ⟨_, rfl⟩
  have C1 := fun (w' : World) (hx : Ext w w') => pConforms _ _ _ L most hm w' (hI.below hx)
  have C3 := fun (w' : World) (hx : Ext w w') => pConforms _ _ _ L _ hs w' (hI.below hx)
  have C4 := fun (w' : World) (hx : Ext w w') => pFill _ _ _ L x hUe w' (hI.below hx)
  have C5 := fun (w' : World) => pConforms none 0 0 [] most hm w' (ev_nil (fun _ => rfl) (by omega))
  have hF := pfill_U hUL x hUe
  rw [e1] at C1 q1 q2 q3
  rw [e3] at C3 q2
  rw [e4] at C4 q3 hF
  rw [e2] at q1
  rw [nil_conf] at C5
  obtain ⟨hF1, hF2⟩ := hF
  have hlt1 : (0 : Int) < (L.length : Int) := by omega
  have hle : (i : Int) ≤ (cap : Int) := by omega
  have hne : ¬ L.length = 0 := by omega
  have hne2 : ¬ (L.length : Int) = 0 := by omega
  have hne3 : ¬ L = [] := by rintro rfl; simp at h0
  have hld : (i : Int) + (d : Int) ≤ (cap : Int) := by omega
  have hin : ((L.length : Int) - 1).toNat = L.length - 1 := by omega
  have hj1 : (L.length : Int) - 1 < (L.length : Int) := by omega
  have hj0 : (0 : Int) ≤ (L.length : Int) - 1 := by omega
  have HC1 := Lib.hid C1
  have HC3 := Lib.hid C3
  have HC4 := Lib.hid C4
  have HC5 := Lib.hid C5
  clear C1 C3 C4 C5 hUL hc hUe e1 e3 e4 ex
  have hcut : ∀ w', Ext w w' → ∀ A', A' = (if cap = i then some ⟨b, off, none⟩ else some ⟨b, off + i * 2, none⟩) → Calls Try.prog 24 #[.slice A' d (cap - i), .int .u64 most] w' fun e w'' => e = .returned (.bool P2) ∧ Ext w' w'' := by
    intro w' hx A' hA
    have hev : IsEv w' A' d (cap - i) ((L.take (i + d)).drop i) := by
      by_cases hci : cap = i
      · rw [if_pos hci] at hA
        subst hA
        have hd0 : d = 0 := by omega
        have hl0 : (L.take (i + d)).drop i = [] := by rw [hd0]; simp
        rw [hl0, hd0]
        exact ev_nil (fun h => by cases h) (by rw [maxLen_lit]; omega)
      · rw [if_neg hci] at hA
        subst hA
        have := (hI.below hx).cut (i := i) (j := i + d) (by omega) hdl
        rwa [show i + d - i = d by omega] at this
    have := pConforms _ _ _ _ most hm w' hev
    rwa [e2] at this
  have HCut := Lib.hid hcut
  clear hcut hI e2 HI
  by_cases hci : cap = i
  · have HA := Lib.hid (show (some ⟨b, off, none⟩ : Option Addr) = (if cap = i then some ⟨b, off, none⟩ else some ⟨b, off + i * 2, none⟩) from by rw [if_pos hci])
    have hd0 : d = 0 := by omega
    have hcA : ∀ w', Ext w w' → Calls Try.prog 24 #[.slice (some ⟨b, off, none⟩) 0 0, .int .u64 most] w' fun e w'' => e = .returned (.bool P2) ∧ Ext w' w'' := by
      intro w' hx
      have := HCut.out w' hx _ HA.out
      rwa [hd0, hci, Nat.sub_self] at this
    have HCA := Lib.hid hcA
    clear hcA HCut HA
    subst hd0
    subst hci
    cases P1 with
    | true =>
      obtain rfl := q1 rfl
      obtain rfl := q2 rfl
      have hFm := q3 rfl
      clear q1 q2 q3
      go_enter Try.func26, Try.ntmps26
      go_wp2_with fail
      refine (HC1.out _ (Ext.refl w)).mono ?_
      rintro e w1 ⟨rfl, hx1⟩
      go_wp2_with fail
      refine (HCA.out _ hx1).mono ?_
      rintro e w2 ⟨rfl, hx2⟩
      go_wp2_with fail
      refine (rAdd most more hm hmo' _).mono ?_
      rintro e w3 ⟨rfl, rfl⟩
      go_wp2_with fail
      refine (HC3.out _ (hx1.trans hx2)).mono ?_
      rintro e w3 ⟨rfl, hx3⟩
      have hl3 := ((hx1.trans hx2).trans hx3).reads HL.out
      go_wp2_with fail
      refine (HC4.out _ ((hx1.trans hx2).trans hx3)).mono ?_
      rintro e w4 ⟨rfl, hx4⟩
      go_wp2_with fail
      refine (HC5.out _).mono ?_
      rintro e w5 ⟨rfl, hx5⟩
      go_wp2
      all_goals (go_ret; exact ⟨rfl, by repeat (first | exact Ext.refl _ | assumption | apply Ext.drew | apply Ext.alloc | (refine Ext.setCell ?_ (by simp <;> omega) _) | refine Ext.trans ?_ (by assumption))⟩)
    | false =>
      clear q1 q2 q3
      go_enter Try.func26, Try.ntmps26
      go_wp2_with fail
      refine (HC1.out _ (Ext.refl w)).mono ?_
      rintro e w1 ⟨rfl, hx1⟩
      go_wp2_with fail
      refine (HCA.out _ hx1).mono ?_
      rintro e w2 ⟨rfl, hx2⟩
      go_wp2_with fail
      refine (rAdd most more hm hmo' _).mono ?_
      rintro e w3 ⟨rfl, rfl⟩
      go_wp2_with fail
      refine (HC3.out _ (hx1.trans hx2)).mono ?_
      rintro e w3 ⟨rfl, hx3⟩
      have hl3 := ((hx1.trans hx2).trans hx3).reads HL.out
      go_wp2_with fail
      refine (HC4.out _ ((hx1.trans hx2).trans hx3)).mono ?_
      rintro e w4 ⟨rfl, hx4⟩
      go_wp2_with fail
      refine (HC5.out _).mono ?_
      rintro e w5 ⟨rfl, hx5⟩
      go_wp2
      all_goals (go_ret; exact ⟨rfl, by repeat (first | exact Ext.refl _ | assumption | apply Ext.drew | apply Ext.alloc | (refine Ext.setCell ?_ (by simp <;> omega) _) | refine Ext.trans ?_ (by assumption))⟩)
  · have HA := Lib.hid (show (some ⟨b, off + i * 2, none⟩ : Option Addr) = (if cap = i then some ⟨b, off, none⟩ else some ⟨b, off + i * 2, none⟩) from by rw [if_neg hci])
    have HCA := Lib.hid (fun w' hx => HCut.out w' hx _ HA.out)
    clear HCut HA
    cases P1 with
    | true =>
      obtain rfl := q1 rfl
      obtain rfl := q2 rfl
      have hFm := q3 rfl
      clear q1 q2 q3
      go_enter Try.func26, Try.ntmps26
      go_wp2_with fail
      refine (HC1.out _ (Ext.refl w)).mono ?_
      rintro e w1 ⟨rfl, hx1⟩
      go_wp2_with fail
      refine (HCA.out _ hx1).mono ?_
      rintro e w2 ⟨rfl, hx2⟩
      go_wp2_with fail
      refine (rAdd most more hm hmo' _).mono ?_
      rintro e w3 ⟨rfl, rfl⟩
      go_wp2_with fail
      refine (HC3.out _ (hx1.trans hx2)).mono ?_
      rintro e w3 ⟨rfl, hx3⟩
      have hl3 := ((hx1.trans hx2).trans hx3).reads HL.out
      go_wp2_with fail
      refine (HC4.out _ ((hx1.trans hx2).trans hx3)).mono ?_
      rintro e w4 ⟨rfl, hx4⟩
      go_wp2_with fail
      refine (HC5.out _).mono ?_
      rintro e w5 ⟨rfl, hx5⟩
      go_wp2
      all_goals (go_ret; exact ⟨rfl, by repeat (first | exact Ext.refl _ | assumption | apply Ext.drew | apply Ext.alloc | (refine Ext.setCell ?_ (by simp <;> omega) _) | refine Ext.trans ?_ (by assumption))⟩)
    | false =>
      clear q1 q2 q3
      go_enter Try.func26, Try.ntmps26
      go_wp2_with fail
      refine (HC1.out _ (Ext.refl w)).mono ?_
      rintro e w1 ⟨rfl, hx1⟩
      go_wp2_with fail
      refine (HCA.out _ hx1).mono ?_
      rintro e w2 ⟨rfl, hx2⟩
      go_wp2_with fail
      refine (rAdd most more hm hmo' _).mono ?_
      rintro e w3 ⟨rfl, rfl⟩
      go_wp2_with fail
      refine (HC3.out _ (hx1.trans hx2)).mono ?_
      rintro e w3 ⟨rfl, hx3⟩
      have hl3 := ((hx1.trans hx2).trans hx3).reads HL.out
      go_wp2_with fail
      refine (HC4.out _ ((hx1.trans hx2).trans hx3)).mono ?_
      rintro e w4 ⟨rfl, hx4⟩
      go_wp2_with fail
      refine (HC5.out _).mono ?_
      rintro e w5 ⟨rfl, hx5⟩
      go_wp2
      all_goals (go_ret; exact ⟨rfl, by repeat (first | exact Ext.refl _ | assumption | apply Ext.drew | apply Ext.alloc | (refine Ext.setCell ?_ (by simp <;> omega) _) | refine Ext.trans ?_ (by assumption))⟩)

theorem pParts (a : Option Addr) (len cap : Nat) (L : List (Int × Int)) (most more fr to : Int) (hm : U most) (hmo : 0 ≤ more ∧ more ≤ 4294967295) (hf : 0 ≤ fr ∧ fr ≤ 255) (ht : 0 ≤ to ∧ to ≤ 255) (w : World) (hI : IsEv w a len cap L) (h64 : len ≤ 64) :
    Calls Try.prog 26 #[.slice a len cap, .int .u64 most, .int .u32 more, .int .u8 fr, .int .u8 to] w fun e w' => e = .returned (.bool true) ∧ Ext w w' := by
  obtain rfl := hI.1
  by_cases h0 : L.length = 0
  · rw [h0]
    exact pParts0 a none cap most more fr to hI.2.1.2.2 hI.2.1.2.1 hm hmo hf ht w
  · obtain ⟨b, off, rfl, _⟩ := hI.at (by omega)
    have hi0 := Int.emod_nonneg fr (show (L.length : Int) + 1 ≠ 0 by omega)
    have hi1 := Int.emod_lt_of_pos fr (show (0 : Int) < (L.length : Int) + 1 by omega)
    obtain ⟨i, hi⟩ : ∃ i : Nat, fr % ((L.length : Int) + 1) = i := ⟨(fr % ((L.length : Int) + 1)).toNat, by omega⟩
    have hd0 := Int.emod_nonneg to (show (L.length : Int) - i + 1 ≠ 0 by omega)
    have hd1 := Int.emod_lt_of_pos to (show (0 : Int) < (L.length : Int) - i + 1 by omega)
    obtain ⟨d, hd⟩ : ∃ d : Nat, to % ((L.length : Int) - i + 1) = d := ⟨(to % ((L.length : Int) - i + 1)).toNat, by omega⟩
    exact pParts1 b off cap L most more fr to i d hi hd (by omega) (by omega) (by omega) h64 hm hmo hf ht w hI

set_option maxRecDepth 20000 in
set_option maxHeartbeats 1000000 in
theorem kPartsLaw (a : Option Addr) (len cap : Nat) (L : List (Int × Int)) (most more fr to : Int) (a' : Option Addr) (len' cap' : Nat) (Z : Nat → Nat → Int) (k : Int) (hm : U most) (hmo : 0 ≤ more ∧ more ≤ 4294967295) (hf : 0 ≤ fr ∧ fr ≤ 255) (ht : 0 ≤ to ∧ to ≤ 255) (hk : 0 ≤ k ∧ k ≤ 255) (w : World)
    (hI : IsEv w a len cap L) (hS : IsSt w a' len' Z) :
    Calls Try.prog 5 #[.slice a len cap, .int .u64 most, .int .u32 more, .int .u8 fr, .int .u8 to, .slice a' len' cap', .int .u8 k] w fun e w' => e = .returned (.bool true) ∧ Ext w w' := by
  have hmax := Nat.le_trans hI.2.1.1 hI.2.1.2.1
  rw [maxLen_lit] at hmax
  have HI := Lib.hid hI
  have HS := Lib.hid hS
  clear hI hS
  obtain ⟨hmo1, hmo2⟩ := hmo
  obtain ⟨hk1, hk2⟩ := hk
  by_cases h30 : len ≤ 30
  · have hl : ¬ (30 : Int) < (len : Int) := by omega
    go_enter Try.func5, Try.ntmps5
    go_wp2_with fail
    refine (pKnown _).mono ?_
    rintro e w1 ⟨rfl, hx1⟩
    go_wp2_with fail
    refine (pParts a len cap L most more fr to hm ⟨hmo1, hmo2⟩ hf ht _ (HI.out.below hx1) (by omega)).mono ?_
    rintro e w2 ⟨rfl, hx2⟩
    go_wp2_with fail
    refine (eEvents a' len' cap' Z _ ((HS.out.below hx1).below hx2)).mono ?_
    rintro e w3 ⟨v3, rfl, ho3, hx3⟩
    obtain ⟨a3, c3, rfl, hi3, -⟩ := ho3.ev (evs_UL HS.out.2.1 (Nat.min_le_left _ _) (Nat.min_le_right _ _))
    have H3 := Lib.hid hi3
    clear hi3 ho3
    rw [evs_length] at H3 ⊢
    go_wp2_with fail
    refine (pParts a3 _ c3 _ _ more fr to (shr_U (by unfold U; omega) _) ⟨hmo1, hmo2⟩ hf ht _ H3.out (by omega)).mono ?_
    rintro e w4 ⟨rfl, hx4⟩
    go_wp2
    go_ret
    exact ⟨rfl, by repeat (first | exact Ext.refl _ | assumption | apply Ext.drew | apply Ext.alloc | (refine Ext.setCell ?_ (by simp <;> omega) _) | refine Ext.trans ?_ (by assumption))⟩
  · have hl : (30 : Int) < (len : Int) := by omega
    go_enter Try.func5, Try.ntmps5
    go_wp2_with fail
    refine (pKnown _).mono ?_
    rintro e w1 ⟨rfl, hx1⟩
    go_wp2
    go_ret
    exact ⟨rfl, by repeat (first | exact Ext.refl _ | assumption | apply Ext.drew | apply Ext.alloc | (refine Ext.setCell ?_ (by simp <;> omega) _) | refine Ext.trans ?_ (by assumption))⟩

end Go.Proofs.Ytfabgfenelaheaa
