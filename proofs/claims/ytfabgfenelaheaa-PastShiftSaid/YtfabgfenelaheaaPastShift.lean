/- The walk of the law PastShift. -/
import Derived.Test.YtfabgfenelaheaaPastEvt
set_option linter.unusedVariables false
namespace Go.Proofs.Ytfabgfenelaheaa
open Go.RowKit

attribute [local go_sem] ite_min ite_max

theorem shift_length (b : Int) (L : List (Int × Int)) : (shift b L).length = L.length := by simp [shift]
theorem shift_take_succ {b : Int} {L : List (Int × Int)} {k : Nat} (hk : k < L.length) : shift b (L.take (k + 1)) = shift b (L.take k) ++ [((L.getD k (0, 0)).1 + b, (L.getD k (0, 0)).2)] := by
  rw [take_snoc hk]; simp [shift]
theorem shift_UL {b : Int} {L : List (Int × Int)} (h : Sm L) (hb : 0 ≤ b ∧ b ≤ 4294967295) : UL (shift b L) := by
  rw [UL.mem]
  intro e he
  unfold shift at he
  simp only [List.mem_map] at he
  obtain ⟨x, hx, rfl⟩ := he
  have := h x hx
  unfold U
  dsimp only
  omega

set_option maxRecDepth 20000 in
set_option maxHeartbeats 2000000 in
theorem kShiftLaw (a : Option Addr) (len cap : Nat) (Z : Nat → Nat → Int) (by_ most v : Int) (hb : 0 ≤ by_ ∧ by_ ≤ 4294967295) (hm : 0 ≤ most ∧ most ≤ 4294967295) (hv : 0 ≤ v ∧ v ≤ 65535) (w : World) (hS : IsSt w a len Z) :
    Calls Try.prog 9 #[.slice a len cap, .int .u32 by_, .int .u32 most, .int .u16 v] w fun e w' => e = .returned (.bool true) ∧ Ext w w' := by
  obtain ⟨i0, hi, hz0, hz1, hz2⟩ := info_parts infoE
  have hSUL := fun (L : List (Int × Int)) (h : Sm L) => shift_UL h hb
  obtain ⟨hb1, hb2⟩ := hb
  obtain ⟨hm1, hm2⟩ := hm
  obtain ⟨hv1, hv2⟩ := hv
  have hOk := hS.2.1
  have HS := Lib.hid hS
  obtain ⟨n, en⟩ : ∃ n, min len 40 = n := ⟨_, rfl⟩
  have hn1 : n ≤ len := by omega
  have hn40 : n ≤ 40 := by omega
  have hUL := evs_UL hOk hn1 hn40
  have hSm := evs_sm (hOk.le hn1) hn40
  have hSU := hSUL _ hSm
  have hlen := evs_length Z n
  have hget := fun k hk => evs_getD Z n k hk
  have hA := evAt_le hOk n hn1
  have hWb := fun k hk => evW_le (k := k) (hOk.le hn1) hk
  have hAb := fun k hk => evAt_le (hOk.le hn1) k hk
  have hNext : ∀ k, k < n → shift by_ ((evs Z n).take (k + 1)) = shift by_ ((evs Z n).take k) ++ [(evAt Z (k + 1) + by_, evW Z k)] := fun k hk => by rw [shift_take_succ (by omega), hget k hk]
  have hFull : (evs Z n).take n = evs Z n := List.take_of_length_le (by omega)
  obtain ⟨L, eL⟩ : ∃ L, evs Z n = L := ⟨_, rfl⟩
  obtain ⟨A, eA⟩ : ∃ A, evAt Z n = A := ⟨_, rfl⟩
  rw [eL] at hUL hSm hlen hget hNext hFull hSU
  rw [eA] at hA
  have q1 : pconf (shift by_ L ++ [(A + by_, v)]) most = pconf (L ++ [(A, v)]) most := by rw [shift_snoc, pconf_shift]
  have q2 : pfill (shift by_ L) (A + by_) = pfill L A := pfill_shift _ _ _
  have q3 : pconf (shift by_ L) most = pconf L most := pconf_shift _ _ _
  obtain ⟨B, eB⟩ : ∃ B, pconf (L ++ [(A, v)]) most = B := ⟨_, rfl⟩
  obtain ⟨X, eX⟩ : ∃ X, pfill L A = X := ⟨_, rfl⟩
  obtain ⟨C, eC⟩ : ∃ C, pconf L most = C := ⟨_, rfl⟩
  rw [eB] at q1
  rw [eX] at q2
  rw [eC] at q3
  have HG := Lib.hid hget
  have HN := Lib.hid hNext
  have HW := Lib.hid hWb
  have HAb := Lib.hid hAb
  have HUL := Lib.hid hUL
  have HSU := Lib.hid hSU
  have HLen := Lib.hid hlen
  have HEnd := Lib.hid (And.intro hFull eA)
  have HEv := Lib.hid (And.intro en eL)
  have HQ := Lib.hid (And.intro eB (And.intro q1 (And.intro eX (And.intro q2 (And.intro eC q3)))))
  have HWB := Lib.hid (show IntKind.u64.wrap by_ = by_ by rw [IntKind.wrap_u64]; omega)
  clear hS hOk hUL hSm hlen hget hWb hAb hNext hFull q1 q2 q3 eL eA eB eX eC en hSUL hSU
  go_enter Try.func9, Try.ntmps9
  go_wp2_with fail
  refine (eEvents a len cap Z _ HS.out).mono ?_
  rw [HEv.out.1, HEv.out.2]
  rintro e1 w1 ⟨v1, rfl, ho1, hx1⟩
  obtain ⟨a1, c1, rfl, hi1, -⟩ := ho1.ev HUL.out
  rw [HLen.out] at hi1 ⊢
  have H1 := Lib.hid hi1
  clear hi1 ho1
  go_wp2
  go_loopw [10, 11, 12] (fun out now i wr => ∃ k : Nat, k ≤ n ∧ now = .int .u64 (evAt Z k) ∧ OwnEv wr w1.heap.size out (shift by_ (L.take k)) ∧ i = .int .i64 k ∧ Ext w1 wr) (fun _ _ i _ => n - (intOf i).toNat)
  case atStart => exact ⟨0, by omega, rfl, by simpa [shift] using OwnEv.nil _ _, rfl, Ext.refl _⟩
  case round =>
    obtain ⟨k, hk, rfl, hown, rfl, hx⟩ := hrel
    by_cases hlt : k < n
    · obtain ⟨b, off, rfl, hc⟩ := H1.out.at (by omega)
      have c0 := (hc k hlt).1
      have c1 := (hc k hlt).2
      rw [HG.out k hlt] at c0 c1
      dsimp only at c0 c1
      have hN := HN.out k hlt
      have hw := HW.out k hlt
      have hab := HAb.out (k + 1) (by omega)
      have hol : (shift by_ (L.take k)).length = k := by rw [shift_length, List.length_take, HLen.out]; omega
      obtain ⟨M, eM⟩ : ∃ M, shift by_ (L.take k) = M := ⟨_, rfl⟩
      obtain ⟨y, ey⟩ : ∃ T, evAt Z (k + 1) = T := ⟨_, rfl⟩
      obtain ⟨V, eV⟩ : ∃ V, evW Z k = V := ⟨_, rfl⟩
      rw [eM] at hN hown hol
      rw [ey] at hN c0 hab
      rw [eV] at hw hN c1
      have d0 := hx.reads c0
      have d1 := hx.reads c1
      have HC := Lib.hid (And.intro c0 c1)
      have HNk := Lib.hid (And.intro hN ey)
      have hl1 : (k : Int) < (n : Int) := by omega
      have hblt : b < wr.heap.size := World.block_lt_of_cell? wr _ d0
      have HWY := Lib.hid (show IntKind.u64.wrap (y + by_) = y + by_ by rw [IntKind.wrap_u64]; omega)
      have hw1 := HWB.out
      have hw2 := HWY.out
      have HO := Lib.hid hown
      have hxw := hx
      clear hc hN eM ey eV hown c0 c1
      go_wp2
      go_region_held3 (fun w' => w'.cell? ⟨b, off + k * 2, none⟩ = some (.int .u64 y) ∧ w'.cell? ⟨b, off + k * 2 + 1, none⟩ = some (.int .u64 V) ∧ Ext w1 w')
        (first
          | exact ⟨hb.reads HC.out.1, hb.reads HC.out.2, hb⟩
          | exact ⟨by go_simp, by go_simp, by repeat (first | exact Ext.refl _ | assumption | apply Ext.drew | apply Ext.alloc | (refine Ext.setCell ?_ (by simp <;> omega) _) | refine Ext.trans ?_ (by assumption))⟩)
        ((rw [if_pos (by rfl)]; refine wp_append_own _ _ _ 22 rfl w1.heap.size 29 i0 (.agg #[.int .u64 0, .int .u64 0]) 2 16 Try.underlying22 hi hz0 hz1 hz2 rfl (by decide) _ M.length (flat M) rfl (HO.out.ext (by repeat (first | exact Ext.refl _ | assumption | apply Ext.drew | apply Ext.alloc | (refine Ext.setCell ?_ (by simp <;> omega) _) | refine Ext.trans ?_ (by assumption)))) ⟨wr.heap.size, 0, none⟩ 1 1 [.int .u64 (y + by_), .int .u64 V] rfl rfl (two_news (by go_simp) (by go_simp)) two_one (by rw [hol]; unfold maxLen; omega) (by rw [hol]; omega) (by have := hxw.size; simp; omega) ?_; intro v' w5 hown1 hgrow1 _; have hb : Ext w1 w5 := ext_own (L := M) (by repeat (first | exact Ext.refl _ | assumption | apply Ext.drew | apply Ext.alloc | (refine Ext.setCell ?_ (by simp <;> omega) _) | refine Ext.trans ?_ (by assumption))) (HO.out.ext (by repeat (first | exact Ext.refl _ | assumption | apply Ext.drew | apply Ext.alloc | (refine Ext.setCell ?_ (by simp <;> omega) _) | refine Ext.trans ?_ (by assumption)))) hgrow1))
      have ho5 := own_snoc hown1
      rw [← HNk.out.1] at ho5
      have e0 := hb.reads HC.out.1
      clear hown1 hgrow1 hw1 hw2 d0 d1
      go_wp2
      go_roundw
      case rel => exact ⟨k + 1, by omega, by rw [HNk.out.2], ho5, by simp, hb⟩
      case measure => simp [intOf]; omega
    · obtain rfl : k = n := by omega
      have hl1 : ¬ (k : Int) < (k : Int) := by omega
      rw [HEnd.out.1] at hown
      rw [HEnd.out.2]
      obtain ⟨a2, c2, hv2, hi2, -⟩ := hown.ev HSU.out
      rw [shift_length, HLen.out] at hv2 hi2
      subst hv2
      have H2 := Lib.hid hi2
      clear hi2 hown
      go_wp2_with fail
      refine (pDecide a1 k _ L A most v (by unfold U; omega) (by unfold U; omega) (by unfold U; omega) _ (H1.out.below hx) (by omega)).mono ?_
      rw [HQ.out.1]
      rintro e1 w3 ⟨v3, rfl, ho3, hx3⟩
      go_wp2_with fail
      refine (pDecide a2 k _ (shift by_ L) (A + by_) most v (by unfold U; omega) (by unfold U; omega) (by unfold U; omega) _ (H2.out.below hx3) (by omega)).mono ?_
      rw [HQ.out.2.1]
      rintro e1 w4 ⟨v4, rfl, ho4, hx4⟩
      go_wp2_with fail
      refine (pKnown _).mono ?_
      rintro e1 w5 ⟨rfl, hx5⟩
      go_wp2_with fail
      refine (pFill a1 k _ L A (by unfold U; omega) _ (H1.out.below (((hx.trans hx3).trans hx4).trans hx5))).mono ?_
      rw [HQ.out.2.2.1]
      rintro e1 w6 ⟨rfl, hx6⟩
      go_wp2_with fail
      refine (pFill a2 k _ (shift by_ L) (A + by_) (by unfold U; omega) _ (H2.out.below (((hx3.trans hx4).trans hx5).trans hx6))).mono ?_
      rw [HQ.out.2.2.2.1]
      rintro e1 w7 ⟨rfl, hx7⟩
      go_wp2_with fail
      refine (pConforms a1 k _ L most (by unfold U; omega) _ (H1.out.below (((((hx.trans hx3).trans hx4).trans hx5).trans hx6).trans hx7))).mono ?_
      rw [HQ.out.2.2.2.2.1]
      rintro e1 w8 ⟨rfl, hx8⟩
      go_wp2_with fail
      refine (pConforms a2 k _ (shift by_ L) most (by unfold U; omega) _ (H2.out.below (((((hx3.trans hx4).trans hx5).trans hx6).trans hx7).trans hx8))).mono ?_
      rw [HQ.out.2.2.2.2.2]
      rintro e1 w9 ⟨rfl, hx9⟩
      go_wp2
      go_ret
      exact ⟨rfl, by repeat (first | exact Ext.refl _ | assumption | apply Ext.drew | apply Ext.alloc | (refine Ext.setCell ?_ (by simp <;> omega) _) | refine Ext.trans ?_ (by assumption))⟩

end Go.Proofs.Ytfabgfenelaheaa
