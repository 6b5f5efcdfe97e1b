/- The walk of the law PastTime. -/
import Derived.Test.YtfabgfenelaheaaPastEvt
set_option linter.unusedVariables false
namespace Go.Proofs.Ytfabgfenelaheaa
open Go.RowKit

attribute [local go_sem] ite_min ite_max

theorem wsum_take {L : List (Int × Int)} {k : Nat} (hk : k < L.length) : wsum (L.take (k + 1)) = wsum (L.take k) + (L.getD k (0, 0)).2 := by
  rw [take_snoc hk, wsum_append]; simp

theorem Sm.take {L : List (Int × Int)} (h : Sm L) (k : Nat) : Sm (L.take k) := fun e he => h e (List.mem_of_mem_take he)

set_option maxRecDepth 20000 in
set_option maxHeartbeats 1000000 in
theorem kTimeLaw (a : Option Addr) (len cap : Nat) (Z : Nat → Nat → Int) (d e : Int) (hd : 0 ≤ d ∧ d ≤ 4294967295) (he : 0 ≤ e ∧ e ≤ 4294967295) (w : World) (hS : IsSt w a len Z) :
    Calls Try.prog 6 #[.slice a len cap, .int .u32 d, .int .u32 e] w fun e w' => e = .returned (.bool true) ∧ Ext w w' := by
  obtain ⟨hd1, hd2⟩ := hd
  obtain ⟨he1, he2⟩ := he
  have hOk := hS.2.1
  have HS := Lib.hid hS
  obtain ⟨n, en⟩ : ∃ n, min len 40 = n := ⟨_, rfl⟩
  have hn1 : n ≤ len := by omega
  have hn40 : n ≤ 40 := by omega
  have hUL := evs_UL hOk hn1 hn40
  have hSm := evs_sm (hOk.le hn1) hn40
  have hPast := evs_past (hOk.le hn1)
  have hlen := evs_length Z n
  have hget := fun k hk => evs_getD Z n k hk
  have hA := evAt_le hOk n hn1
  have hWb := fun k hk => evW_le (k := k) (hOk.le hn1) hk
  have hAb := fun k hk => evAt_le (hOk.le hn1) k hk
  have hNext : ∀ k, k < n → wsum ((evs Z n).take (k + 1)) = wsum ((evs Z n).take k) + evW Z k := fun k hk => by rw [wsum_take (by omega), hget k hk]
  have hSt : ∀ k, 0 ≤ wsum ((evs Z n).take k) ∧ wsum ((evs Z n).take k) ≤ 40 * 68719476736 := fun k => by
    have h1 := wsum_le (hSm.take k)
    have h2 : ((evs Z n).take k).length ≤ 40 := by simp; omega
    omega
  have hFull : (evs Z n).take n = evs Z n := List.take_of_length_le (by omega)
  have hL1000 : (evs Z n).length ≤ 1000 := by omega
  have p1 := pfill_later (now := evAt Z n + d) (d := e) hSm hL1000 (fun x hx => by have := hPast x hx; omega) he1
  have p2 := pfill_gone hSm hL1000 hPast
  have p3 := pfill_sum (now := evAt Z n + d) hSm hL1000
  have hSn := hSt n
  rw [hFull] at hSn
  obtain ⟨L, eL⟩ : ∃ L, evs Z n = L := ⟨_, rfl⟩
  obtain ⟨A, eA⟩ : ∃ A, evAt Z n = A := ⟨_, rfl⟩
  rw [eL] at hUL hSm hPast hlen hget hNext hSt hFull hL1000 p1 p2 p3 hSn
  rw [eA] at hA p1 p2 p3
  obtain ⟨S, eS⟩ : ∃ S, wsum L = S := ⟨_, rfl⟩
  obtain ⟨X, eX⟩ : ∃ X, pfill L (A + d) = X := ⟨_, rfl⟩
  rw [eS] at p2 p3 hSn
  rw [eX] at p1 p3
  have hX := pfill_U hUL (A + d) (by unfold U; omega)
  rw [eX] at hX
  have hX' := hX
  obtain ⟨hX1, hX2⟩ := hX'
  have hY := usub_U hX (b := e) (by unfold U; omega)
  obtain ⟨Y, eY⟩ : ∃ Y, usub X e = Y := ⟨_, rfl⟩
  rw [eY] at p1
  have HG := Lib.hid hget
  have HN := Lib.hid hNext
  have HT := Lib.hid hSt
  have HW := Lib.hid hWb
  have HAb := Lib.hid hAb
  have HUL := Lib.hid hUL
  have HLen := Lib.hid hlen
  have HEnd := Lib.hid (And.intro hFull (And.intro eA (And.intro eS eY)))
  have HEv := Lib.hid (And.intro en eL)
  have HP := Lib.hid (And.intro eX (And.intro p1 p2))
  clear hS hOk hUL hSm hPast hlen hget hWb hAb hNext hSt hFull hL1000 p1 p2 eL eA eS eX eY en hY
  go_enter Try.func6, Try.ntmps6
  go_wp2_with fail
  refine (eEvents a len cap Z _ HS.out).mono ?_
  rw [HEv.out.1, HEv.out.2]
  rintro e1 w1 ⟨v1, rfl, ho1, hx1⟩
  obtain ⟨a1, c1, rfl, hi1, -⟩ := ho1.ev HUL.out
  rw [HLen.out] at hi1 ⊢
  have H1 := Lib.hid hi1
  clear hi1 ho1
  go_wp2
  go_loop [8, 9, 10] (fun last sum i => ∃ k : Nat, k ≤ n ∧ last = .int .u64 (evAt Z k) ∧ sum = .int .u64 (wsum (L.take k)) ∧ i = .int .i64 k) (fun _ _ i => n - (intOf i).toNat)
  case atStart => exact ⟨0, by omega, rfl, by simp, rfl⟩
  case round =>
    obtain ⟨k, hk, rfl, rfl, rfl⟩ := hrel
    by_cases hlt : k < n
    · obtain ⟨b, off, rfl, hc⟩ := H1.out.at (by omega)
      have c0 := (hc k hlt).1
      have c1 := (hc k hlt).2
      rw [HG.out k hlt] at c0 c1
      dsimp only at c0 c1
      have hN := HN.out k hlt
      have hs := HT.out k
      have hw := HW.out k hlt
      obtain ⟨T, eT⟩ : ∃ T, wsum (L.take k) = T := ⟨_, rfl⟩
      obtain ⟨V, eV⟩ : ∃ V, evW Z k = V := ⟨_, rfl⟩
      rw [eT] at hs hN ⊢
      rw [eV] at hw hN c1
      obtain ⟨hs1, hs2⟩ := hs
      obtain ⟨hw1, hw2⟩ := hw
      have HNk := Lib.hid hN
      have hl1 : (k : Int) < (n : Int) := by omega
      clear hc hN eT eV
      go_wp2
      go_round
      case rel => exact ⟨k + 1, by omega, rfl, by rw [HNk.out], by simp⟩
      case measure => simp [intOf]; omega
    · obtain rfl : k = n := by omega
      have hl1 : ¬ (k : Int) < (k : Int) := by omega
      rw [HEnd.out.1, HEnd.out.2.1, HEnd.out.2.2.1]
      go_wp2_with fail
      refine (pFill a1 k _ L (A + d) (by unfold U; omega) _ H1.out).mono ?_
      rw [HP.out.1]
      rintro e1 w2 ⟨rfl, hx2⟩
      go_wp2_with fail
      refine (pFill a1 k _ L (A + d + e) (by unfold U; omega) _ (H1.out.below hx2)).mono ?_
      rw [HP.out.2.1]
      rintro e1 w3 ⟨rfl, hx3⟩
      go_wp2_with fail
      refine (pKnown _).mono ?_
      rintro e1 w4 ⟨rfl, hx4⟩
      go_wp2_with fail
      refine (rSub X e hX (by unfold U; omega) _).mono ?_
      rw [HEnd.out.2.2.2]
      rintro e1 w5 ⟨rfl, rfl⟩
      go_wp2_with fail
      refine (pFill a1 k _ L (A + S) (by unfold U; omega) _ (H1.out.below ((hx2.trans hx3).trans hx4))).mono ?_
      rw [HP.out.2.2]
      rintro e1 w5 ⟨rfl, hx5⟩
      go_wp2_with fail
      refine (pFill none 0 0 [] A (by unfold U; omega) _ ⟨rfl, ⟨by omega, by omega, fun _ => rfl⟩, UL.nil, .inl rfl⟩).mono ?_
      rw [show pfill [] A = 0 from rfl]
      rintro e1 w6 ⟨rfl, hx6⟩
      go_wp2
      go_ret
      exact ⟨rfl, by repeat (first | exact Ext.refl _ | assumption | apply Ext.drew | apply Ext.alloc | (refine Ext.setCell ?_ (by simp <;> omega) _) | refine Ext.trans ?_ (by assumption))⟩

end Go.Proofs.Ytfabgfenelaheaa
