/- The walk of the law PastAsks. -/
import Derived.Test.YtfabgfenelaheaaPastEvt
set_option linter.unusedVariables false
namespace Go.Proofs.Ytfabgfenelaheaa
open Go.RowKit

attribute [local go_sem] ite_min ite_max

set_option maxRecDepth 20000 in
set_option maxHeartbeats 1000000 in
theorem pAsk (a : Option Addr) (len cap : Nat) (L : List (Int × Int)) (now c v : Int) (hn : U now) (hc : U c) (hv : U v) (w : World) (hI : IsEv w a len cap L) (h64 : len ≤ 100) :
    Calls Try.prog 19 #[.slice a len cap, .int .u64 now, .int .u64 c, .int .u64 v] w fun e w' => e = .returned (.bool true) ∧ Ext w w' := by
  obtain rfl := hI.1
  have hU := hI.2.2.1
  have hUM : UL (if pconf (L ++ [(now, v)]) c then L ++ [(now, v)] else L) := by
    split
    · exact UL.snoc (e := (now, v)) hU hn hv
    · exact hU
  obtain ⟨B, eB⟩ : ∃ B, pconf (L ++ [(now, v)]) c = B := ⟨_, rfl⟩
  obtain ⟨M, eM⟩ : ∃ M, (if pconf (L ++ [(now, v)]) c then L ++ [(now, v)] else L) = M := ⟨_, rfl⟩
  rw [eM] at hUM
  obtain ⟨F, eF⟩ : ∃ F, pfill L now = F := ⟨_, rfl⟩
  obtain ⟨C, eC⟩ : ∃ C, pconf L c = C := ⟨_, rfl⟩
  obtain ⟨R, eR⟩ : ∃ R, prises L = R := ⟨_, rfl⟩
  have HB := Lib.hid (And.intro eM (And.intro eB (And.intro eF (And.intro eC eR))))
  have HI := Lib.hid hI
  have HU := Lib.hid hUM
  clear eB eM eF eC eR hI hU hUM
  go_enter Try.func19, Try.ntmps19
  go_wp2_with fail
  refine (pDecide a L.length cap L now c v hn hc hv _ HI.out h64).mono ?_
  rw [HB.out.1, HB.out.2.1]
  rintro e w1 ⟨v1, rfl, ho1, hx1⟩
  obtain ⟨a1, c1, rfl, hi1, -⟩ := ho1.ev HU.out
  have H1 := Lib.hid hi1
  clear ho1 hi1
  go_wp2_with fail
  refine (rDecide a L.length cap L now c v hn hc hv _ (HI.out.below hx1) h64).mono ?_
  rw [HB.out.1, HB.out.2.1]
  rintro e w2 ⟨a2, n2, c2, rfl, hi2, hx2⟩
  have H2 := Lib.hid hi2
  clear hi2
  go_wp2_with fail
  refine (pFill a L.length cap L now hn _ (HI.out.below (hx1.trans hx2))).mono ?_
  rw [HB.out.2.2.1]
  rintro e w3 ⟨rfl, hx3⟩
  go_wp2_with fail
  refine (rFill a L.length cap L now hn _ (HI.out.below ((hx1.trans hx2).trans hx3))).mono ?_
  rw [HB.out.2.2.1]
  rintro e w4 ⟨rfl, hx4⟩
  go_wp2_with fail
  refine (pConforms a L.length cap L c hc _ (HI.out.below (((hx1.trans hx2).trans hx3).trans hx4))).mono ?_
  rw [HB.out.2.2.2.1]
  rintro e w5 ⟨rfl, hx5⟩
  go_wp2_with fail
  refine (rConforms a L.length cap L c hc _ (HI.out.below ((((hx1.trans hx2).trans hx3).trans hx4).trans hx5))).mono ?_
  rw [HB.out.2.2.2.1]
  rintro e w6 ⟨rfl, hx6⟩
  go_wp2_with fail
  refine (rSame a1 a2 M.length c1 n2 c2 M M _ (H1.out.below ((((hx2.trans hx3).trans hx4).trans hx5).trans hx6)) (H2.out.below (((hx3.trans hx4).trans hx5).trans hx6))).mono ?_
  rw [show decide (M = M) = true from decide_eq_true rfl]
  rintro e w7 ⟨rfl, hx7⟩
  go_wp2_with fail
  refine (pRises a L.length cap L _ (HI.out.below ((((((hx1.trans hx2).trans hx3).trans hx4).trans hx5).trans hx6).trans hx7))).mono ?_
  rw [HB.out.2.2.2.2]
  rintro e w8 ⟨rfl, hx8⟩
  go_wp2_with fail
  refine (rRises a L.length cap L _ (HI.out.below (((((((hx1.trans hx2).trans hx3).trans hx4).trans hx5).trans hx6).trans hx7).trans hx8))).mono ?_
  rw [HB.out.2.2.2.2]
  rintro e w9 ⟨rfl, hx9⟩
  go_wp2
  go_ret
  exact ⟨rfl, by repeat (first | exact Ext.refl _ | assumption | apply Ext.drew | apply Ext.alloc | (refine Ext.setCell ?_ (by simp <;> omega) _) | refine Ext.trans ?_ (by assumption))⟩

set_option maxRecDepth 20000 in
set_option maxHeartbeats 1000000 in
theorem kPastAsksLaw (a : Option Addr) (len cap : Nat) (L : List (Int × Int)) (now c v : Int) (a' : Option Addr) (len' cap' : Nat) (Z : Nat → Nat → Int) (k m : Int) (hn : U now) (hc : U c) (hv : U v) (hk : 0 ≤ k ∧ k ≤ 255) (hm : 0 ≤ m ∧ m ≤ 4294967295) (w : World)
    (hI : IsEv w a len cap L) (hS : IsSt w a' len' Z) :
    Calls Try.prog 3 #[.slice a len cap, .int .u64 now, .int .u64 c, .int .u64 v, .slice a' len' cap', .int .u8 k, .int .u32 m] w fun e w' => e = .returned (.bool true) ∧ Ext w w' := by
  have hmax := Nat.le_trans hI.2.1.1 hI.2.1.2.1
  rw [maxLen_lit] at hmax
  have HI := Lib.hid hI
  have HS := Lib.hid hS
  clear hI hS
  obtain ⟨hk1, hk2⟩ := hk
  obtain ⟨hm1, hm2⟩ := hm
  have hn' := hn
  have hc' := hc
  have hv' := hv
  obtain ⟨hn1, hn2⟩ := hn'
  obtain ⟨hc1, hc2⟩ := hc'
  obtain ⟨hv1, hv2⟩ := hv'
  by_cases h40 : len ≤ 40
  · have hl : ¬ (40 : Int) < (len : Int) := by omega
    obtain ⟨n, en⟩ : ∃ n, min len' 40 = n := ⟨_, rfl⟩
    have hn40 : n ≤ 40 := by omega
    have hUL := evs_UL HS.out.2.1 (show n ≤ len' by omega) hn40
    have hA := evAt_le HS.out.2.1 n (by omega)
    have HEn := Lib.hid en
    have HUL := Lib.hid hUL
    clear en hUL
    by_cases h0 : n = 0
    · subst h0
      go_enter Try.func3, Try.ntmps3
      go_wp2_with fail
      refine (pKnown _).mono ?_
      rintro e w1 ⟨rfl, hx1⟩
      go_wp2_with fail
      refine (eEvents a' len' cap' Z _ (HS.out.below hx1)).mono ?_
      rw [HEn.out]
      rintro e w2 ⟨v2, rfl, ho2, hx2⟩
      obtain ⟨a1, c1, rfl, hi1, -⟩ := ho2.ev HUL.out
      have H1 := Lib.hid hi1
      clear ho2 hi1
      rw [evs_length] at H1 ⊢
      go_wp2_with fail
      refine (pAsk a len cap L now c v hn hc hv _ (HI.out.below (hx1.trans hx2)) (by omega)).mono ?_
      rintro e w3 ⟨rfl, hx3⟩
      go_wp2_with fail
      refine (pAsk a1 0 c1 (evs Z 0) k m _ (by unfold U; omega) (by unfold U; omega) (shr_U hv _) _ (H1.out.below hx3) (by omega)).mono ?_
      rintro e w4 ⟨rfl, hx4⟩
      go_wp2_with fail
      refine (pAsk a1 0 c1 (evs Z 0) now c v hn hc hv _ (H1.out.below (hx3.trans hx4)) (by omega)).mono ?_
      rintro e w5 ⟨rfl, hx5⟩
      go_wp2_with fail
      refine (pAsk a len cap L now _ _ hn (shr_U hc _) (shr_U hv _) _ (HI.out.below ((((hx1.trans hx2).trans hx3).trans hx4).trans hx5)) (by omega)).mono ?_
      rintro e w6 ⟨rfl, hx6⟩
      go_wp2
      go_ret
      exact ⟨rfl, by repeat (first | exact Ext.refl _ | assumption | apply Ext.drew | apply Ext.alloc | (refine Ext.setCell ?_ (by simp <;> omega) _) | refine Ext.trans ?_ (by assumption))⟩
    · obtain ⟨A, eA⟩ : ∃ A, evAt Z n = A := ⟨_, rfl⟩
      rw [eA] at hA
      have HEA := Lib.hid eA
      clear eA
      have hn0 : (0 : Int) < (n : Int) := by omega
      have hq0 : (0 : Int) ≤ (n : Int) - 1 := by omega
      have hq1 : (n : Int) - 1 < (n : Int) := by omega
      have hq2 : ((n : Int) - 1).toNat = n - 1 := by omega
      go_enter Try.func3, Try.ntmps3
      go_wp2_with fail
      refine (pKnown _).mono ?_
      rintro e w1 ⟨rfl, hx1⟩
      go_wp2_with fail
      refine (eEvents a' len' cap' Z _ (HS.out.below hx1)).mono ?_
      rw [HEn.out]
      rintro e w2 ⟨v2, rfl, ho2, hx2⟩
      obtain ⟨a1, c1, rfl, hi1, -⟩ := ho2.ev HUL.out
      have H1 := Lib.hid hi1
      rw [evs_length] at H1 ⊢
      obtain ⟨b, off, rfl, hcell⟩ := H1.out.at (by omega)
      have hcl := (hcell (n - 1) (by omega)).1
      rw [evs_getD Z n (n - 1) (by omega), show n - 1 + 1 = n by omega, HEA.out] at hcl
      clear ho2 hi1 hcell
      go_wp2_with fail
      refine (pAsk a len cap L now c v hn hc hv _ (HI.out.below (hx1.trans hx2)) (by omega)).mono ?_
      rintro e w3 ⟨rfl, hx3⟩
      go_wp2_with fail
      refine (pAsk (some ⟨b, off, none⟩) n c1 (evs Z n) (A + k) m _ (by unfold U; omega) (by unfold U; omega) (shr_U hv _) _ (H1.out.below hx3) (by omega)).mono ?_
      rintro e w4 ⟨rfl, hx4⟩
      go_wp2_with fail
      refine (pAsk (some ⟨b, off, none⟩) n c1 (evs Z n) now c v hn hc hv _ (H1.out.below (hx3.trans hx4)) (by omega)).mono ?_
      rintro e w5 ⟨rfl, hx5⟩
      go_wp2_with fail
      refine (pAsk a len cap L now _ _ hn (shr_U hc _) (shr_U hv _) _ (HI.out.below ((((hx1.trans hx2).trans hx3).trans hx4).trans hx5)) (by omega)).mono ?_
      rintro e w6 ⟨rfl, hx6⟩
      go_wp2
      go_ret
      exact ⟨rfl, by repeat (first | exact Ext.refl _ | assumption | apply Ext.drew | apply Ext.alloc | (refine Ext.setCell ?_ (by simp <;> omega) _) | refine Ext.trans ?_ (by assumption))⟩
  · have hl : (40 : Int) < (len : Int) := by omega
    go_enter Try.func3, Try.ntmps3
    go_wp2_with fail
    refine (pKnown _).mono ?_
    rintro e w1 ⟨rfl, hx1⟩
    go_wp2
    go_ret
    exact ⟨rfl, by repeat (first | exact Ext.refl _ | assumption | apply Ext.drew | apply Ext.alloc | (refine Ext.setCell ?_ (by simp <;> omega) _) | refine Ext.trans ?_ (by assumption))⟩

end Go.Proofs.Ytfabgfenelaheaa
