/- Contracts of the plain functions. -/
import Derived.Test.YtfabgfenelaheaaProg
import Derived.Test.YtfabgfenelaheaaSpec
import Derived.WalkKit
import Derived.Lib.Hide
set_option linter.unusedVariables false
namespace Go.Proofs.Ytfabgfenelaheaa
open Go.RowKit

theorem ite_min (x y : Int) : (if y < x then y else x) = min x y := by rw [Int.min_def]; split <;> split <;> omega

theorem ite_max (x y : Int) : (if x < y then y else x) = max x y := by rw [Int.max_def]; split <;> split <;> omega

theorem ret_u64 {a b : Int} (h : a = b) : Ending.returned (.int .u64 a) = .returned (.int .u64 b) := by rw [h]
theorem ret_bool {a b : Bool} (h : a = b) : Ending.returned (.bool a) = .returned (.bool b) := by rw [h]
theorem ret_3 {a b a' b' : Int} {r r' : Bool} (h : a = a') (h' : b = b') (h'' : r = r') : Ending.returned (.tuple #[.int .u64 a, .int .u64 b, .bool r]) = .returned (.tuple #[.int .u64 a', .int .u64 b', .bool r']) := by rw [h, h', h'']
theorem wrap_u64_lo (a : Int) (h : a < 0) (h' : -18446744073709551616 ≤ a) : IntKind.u64.wrap a = a + 18446744073709551616 := by rw [IntKind.wrap_u64]; omega
theorem wrap_u64_hi (a : Int) (h : 18446744073709551615 < a) (h' : a ≤ 36893488147419103231) : IntKind.u64.wrap a = a - 18446744073709551616 := by rw [IntKind.wrap_u64]; omega

/-- From w on the world has grown: of what was there nothing has turned. -/
def Ext (w w' : World) : Prop := Below w.heap.size w w'

theorem Ext.refl (w : World) : Ext w w := Below.refl _ _

theorem Ext.trans {a b c : World} (h : Ext a b) (k : Ext b c) : Ext a c := Below.trans h (Below.mono k h.size)

theorem Ext.alloc {a w : World} (h : Ext a w) (o : Obj) : Ext a (w.alloc o) := Below.alloc h h.size o

theorem Ext.drew {a w : World} (h : Ext a w) : Ext a w.drew := Below.drew h

theorem Ext.setCell {a w : World} (h : Ext a w) {p : Addr} (hp : a.heap.size ≤ p.block) (u : Value) : Ext a (w.setCell p u) := Below.setCell h hp u

theorem Ext.past {a b : World} {o : Obj} (h : Ext (a.alloc o) b) : Ext a b := ((Ext.refl a).alloc o).trans h

theorem Ext.reads {W w1 : World} (h : Ext W w1) {p : Addr} {v : Value} (hc : W.cell? p = some v) : w1.cell? p = some v := by
  rw [Below.cell h (World.block_lt_of_cell? W _ hc)]; exact hc

theorem Ext.free {W w1 : World} (h : Ext W w1) {p : Addr} {v : Value} (hc : W.cell? p = some v) (hf : W.frozen? p = false) : w1.frozen? p = false := by
  rw [Below.frozen h (World.block_lt_of_cell? W _ hc)]; exact hf

theorem Ext.size {W w1 : World} (h : Ext W w1) : W.heap.size ≤ w1.heap.size := Below.size h

theorem rSub (a b : Int) (ha : U a) (hb : U b) (w : World) :
    Calls Try.prog 27 #[.int .u64 a, .int .u64 b] w fun e w' => e = .returned (.int .u64 (usub a b)) ∧ w = w' := by
  obtain ⟨ha, ha'⟩ := ha; obtain ⟨hb, hb'⟩ := hb
  go_enter Try.func27, Try.ntmps27
  go_wp2
  all_goals (go_ret; exact ⟨ret_u64 (by unfold usub; omega), rfl⟩)

theorem nSub (a b : Int) (ha : U a) (hb : U b) (w : World) :
    Calls Try.prog 49 #[.int .u64 a, .int .u64 b] w fun e w' => e = .returned (.int .u64 (usub a b)) ∧ w = w' := by
  obtain ⟨ha, ha'⟩ := ha; obtain ⟨hb, hb'⟩ := hb
  go_enter Try.func49, Try.ntmps49
  go_wp2
  all_goals (go_ret; exact ⟨ret_u64 (by unfold usub; omega), rfl⟩)

theorem rAdd (a b : Int) (ha : U a) (hb : U b) (w : World) :
    Calls Try.prog 53 #[.int .u64 a, .int .u64 b] w fun e w' => e = .returned (.int .u64 (uadd a b)) ∧ w = w' := by
  obtain ⟨ha, ha'⟩ := ha; obtain ⟨hb, hb'⟩ := hb
  by_cases h : a + b ≤ 18446744073709551615
  · go_enter Try.func53, Try.ntmps53
    go_wp2
    all_goals (go_ret; exact ⟨ret_u64 (by unfold uadd; omega), rfl⟩)
  · have hw := wrap_u64_hi (a + b) (by omega) (by omega)
    have hl : IntKind.u64.wrap (a + b) < a := by omega
    clear hw
    go_enter Try.func53, Try.ntmps53
    go_wp2
    all_goals (go_ret; exact ⟨ret_u64 (by unfold uadd; omega), rfl⟩)

theorem rFits (a b c : Int) (ha : U a) (hb : U b) (hc : U c) (w : World) :
    Calls Try.prog 46 #[.int .u64 a, .int .u64 b, .int .u64 c] w fun e w' => e = .returned (.bool (fits a b c)) ∧ w = w' := by
  obtain ⟨ha, ha'⟩ := ha; obtain ⟨hb, hb'⟩ := hb; obtain ⟨hc, hc'⟩ := hc
  by_cases h : a ≤ c
  · go_enter Try.func46, Try.ntmps46
    go_wp2
    all_goals (go_ret; exact ⟨ret_bool (by unfold fits; rw [Bool.eq_iff_iff]; simp; omega), rfl⟩)
  · go_enter Try.func46, Try.ntmps46
    go_wp2
    all_goals (go_ret; exact ⟨ret_bool (by unfold fits; rw [Bool.eq_iff_iff]; simp; omega), rfl⟩)
theorem wAdd (ah al bh bl : Int) (hah : U ah) (hal : U al) (hbh : U bh) (hbl : U bl) (w : World) :
    Calls Try.prog 81 #[.int .u64 ah, .int .u64 al, .int .u64 bh, .int .u64 bl] w fun e w' =>
      e = .returned (.tuple #[.int .u64 (addH ah al bh bl), .int .u64 (addL al bl), .bool (addR ah al bh bl)]) ∧ w = w' := by
  obtain ⟨hah, hah'⟩ := hah; obtain ⟨hal, hal'⟩ := hal; obtain ⟨hbh, hbh'⟩ := hbh; obtain ⟨hbl, hbl'⟩ := hbl
  by_cases h1 : al + bl ≤ 18446744073709551615
  · by_cases h2 : ah + bh ≤ 18446744073709551615
    · go_enter Try.func81, Try.ntmps81
      go_wp2
      go_ret3
      exact ⟨ret_3 (addH_00 h1 h2).symm (addL_0 h1).symm (by rw [addR_00 h1 h2]; simp; omega), rfl⟩
    · have hw := wrap_u64_hi (ah + bh) (by omega) (by omega)
      obtain ⟨h, hh⟩ : ∃ h, IntKind.u64.wrap (ah + bh) = h := ⟨_, rfl⟩
      rw [hh] at hw
      have l1 : 0 ≤ h := by omega
      have l2 : h < ah := by omega
      have hW := Lib.hid hw; clear hw
      go_enter Try.func81, Try.ntmps81
      go_wp2
      go_ret3
      exact ⟨ret_3 (by rw [hW.out]; exact (addH_01 h1 (by omega)).symm) (addL_0 h1).symm (addR_01 h1 (by omega)).symm, rfl⟩
  · have hv := wrap_u64_hi (al + bl) (by omega) (by omega)
    obtain ⟨l, hl⟩ : ∃ l, IntKind.u64.wrap (al + bl) = l := ⟨_, rfl⟩
    rw [hl] at hv
    have k1 : 0 ≤ l := by omega
    have k2 : l < al := by omega
    have hV := Lib.hid hv; clear hv
    by_cases h2 : ah + bh ≤ 18446744073709551614
    · go_enter Try.func81, Try.ntmps81
      go_wp2
      go_ret3
      exact ⟨ret_3 (addH_10 h1 h2).symm (by rw [hV.out]; exact (addL_1 h1).symm) (by rw [addR_10 h1 h2]; simp; omega), rfl⟩
    · by_cases h3 : ah + bh ≤ 18446744073709551615
      · have hw := wrap_u64_hi (ah + bh + 1) (by omega) (by omega)
        obtain ⟨h, hh⟩ : ∃ h, IntKind.u64.wrap (ah + bh + 1) = h := ⟨_, rfl⟩
        rw [hh] at hw
        have l1 : 0 ≤ h := by omega
        have l2 : h < ah + bh := by omega
        have hW := Lib.hid hw; clear hw
        go_enter Try.func81, Try.ntmps81
        go_wp2
        go_ret3
        exact ⟨ret_3 (by rw [hW.out]; exact (addH_11 h1 (by omega)).symm) (by rw [hV.out]; exact (addL_1 h1).symm) (addR_11 h1 (by omega)).symm, rfl⟩
      · have hw := wrap_u64_hi (ah + bh) (by omega) (by omega)
        obtain ⟨h, hh⟩ : ∃ h, IntKind.u64.wrap (ah + bh) = h := ⟨_, rfl⟩
        rw [hh] at hw
        have l1 : 0 ≤ h := by omega
        have l2 : h < ah := by omega
        have l3 : h ≤ 18446744073709551614 := by omega
        have hW := Lib.hid hw; clear hw
        go_enter Try.func81, Try.ntmps81
        go_wp2
        go_ret3
        exact ⟨ret_3 (by rw [hW.out]; exact (addH_11' h1 (by omega)).symm) (by rw [hV.out]; exact (addL_1 h1).symm) (addR_11 h1 (by omega)).symm, rfl⟩

theorem wLess (ah al bh bl : Int) (hah : U ah) (hal : U al) (hbh : U bh) (hbl : U bl) (w : World) :
    Calls Try.prog 82 #[.int .u64 ah, .int .u64 al, .int .u64 bh, .int .u64 bl] w fun e w' =>
      e = .returned (.bool (less ah al bh bl)) ∧ w = w' := by
  obtain ⟨hah, hah'⟩ := hah; obtain ⟨hal, hal'⟩ := hal; obtain ⟨hbh, hbh'⟩ := hbh; obtain ⟨hbl, hbl'⟩ := hbl
  by_cases h1 : ah = bh
  · subst h1
    go_enter Try.func82, Try.ntmps82
    go_wp2
    go_ret
    exact ⟨ret_bool (by unfold less; simp), rfl⟩
  · go_enter Try.func82, Try.ntmps82
    go_wp2
    go_ret
    exact ⟨ret_bool (by unfold less; simp [h1]), rfl⟩

theorem nFits (a b c : Int) (ha : U a) (hb : U b) (hc : U c) (w : World) :
    Calls Try.prog 58 #[.int .u64 a, .int .u64 b, .int .u64 c] w fun e w' => e = .returned (.bool (fits a b c)) ∧ w = w' := by
  have u0 : U 0 := by unfold U; omega
  have hH := addH_U (al := a) (bl := b) u0 u0
  have hL := addL_U ha hb
  have hf := less_fits ha hb hc
  obtain ⟨H, eH⟩ : ∃ H, addH 0 a 0 b = H := ⟨_, rfl⟩
  obtain ⟨L, eL⟩ : ∃ L, addL a b = L := ⟨_, rfl⟩
  obtain ⟨R, eR⟩ : ∃ R, addR 0 a 0 b = R := ⟨_, rfl⟩
  rw [eH] at hH hf; rw [eL] at hL hf
  have hF := Lib.hid hf; clear hf
  go_enter Try.func58, Try.ntmps58
  go_wp2_with fail
  refine (wAdd 0 a 0 b u0 ha u0 hb _).mono ?_
  rw [eH, eL, eR]
  rintro e w' ⟨rfl, rfl⟩
  go_wp2_with fail
  refine (wLess 0 c H L u0 hc hH hL _).mono ?_
  rintro e w' ⟨rfl, rfl⟩
  go_wp2_with fail
  go_ret
  exact ⟨ret_bool hF.out, rfl⟩

theorem nAddNil (cap : Nat) (w : World) :
    Calls Try.prog 55 #[.slice none 0 cap] w fun e w' => e = .returned (.int .u64 0) ∧ w = w' := by
  go_enter Try.func55, Try.ntmps55
  go_wp2
  go_loop [3, 5, 8] (fun s x i => s = .int .u64 0 ∧ i = .int .i64 0) (fun _ _ _ => 0)
  case atStart => exact ⟨rfl, rfl⟩
  case round =>
    obtain ⟨rfl, rfl⟩ := hrel
    go_wp2
    go_ret
    exact ⟨rfl, rfl⟩

set_option maxHeartbeats 400000 in
theorem nAdd (xs : List Int) (b off cap : Nat) (hx : ∀ i, i < xs.length → U (xs.getD i 0)) (hl : xs.length ≤ maxLen) (w : World)
    (hc : ∀ i, i < xs.length → w.cell? ⟨b, off + i, none⟩ = some (.int .u64 (xs.getD i 0))) :
    Calls Try.prog 55 #[.slice (some ⟨b, off, none⟩) xs.length cap] w fun e w' => e = .returned (.int .u64 (usum xs)) ∧ w = w' := by
  unfold maxLen at hl
  have hC := Lib.hid hc; clear hc
  have hX := Lib.hid hx; clear hx
  go_enter Try.func55, Try.ntmps55
  go_wp2
  go_loop [3, 5, 8] (fun s x i => ∃ k : Nat, k ≤ xs.length ∧ Hid ((xs.take k).sum ≤ 18446744073709551615 ∧ 0 ≤ (xs.take k).sum) ∧ s = .int .u64 (xs.take k).sum ∧ i = .int .i64 k) (fun _ _ i => xs.length - (intOf i).toNat)
  case atStart => exact ⟨0, Nat.zero_le _, Lib.hid ⟨by simp, by simp⟩, rfl, rfl⟩
  case round =>
    obtain ⟨k, hk, hs, rfl, rfl⟩ := hrel
    by_cases hlt : k < xs.length
    · have hcell := hC.out k hlt
      have hU := hX.out k hlt
      have hts := sum_take_succ xs k hlt
      obtain ⟨hs1, hs2⟩ := hs.out
      obtain ⟨hu1, hu2⟩ := hU
      obtain ⟨x, ex⟩ : ∃ x, xs.getD k 0 = x := ⟨_, rfl⟩
      rw [ex] at hcell hu1 hu2 hts
      obtain ⟨S, eS⟩ : ∃ S, (xs.take k).sum = S := ⟨_, rfl⟩
      rw [eS] at hs1 hs2 hts ⊢
      have hTS := Lib.hid hts; clear hts
      have hmono := Lib.hid (sum_take_le xs (k + 1) hX.out)
      clear ex eS hs
      by_cases hov : S + x ≤ 18446744073709551615
      · go_wp2
        go_round
        case rel => exact ⟨k + 1, by omega, Lib.hid (by rw [hTS.out]; omega), by rw [hTS.out], by go_num⟩
        case measure => simp [intOf]; omega
      · have hw := wrap_u64_hi (S + x) (by omega) (by omega)
        obtain ⟨z, ez⟩ : ∃ z, IntKind.u64.wrap (S + x) = z := ⟨_, rfl⟩
        rw [ez] at hw
        have hz : z < x := by omega
        clear hw
        go_wp2
        go_ret
        exact ⟨ret_u64 (by have := hmono.out; rw [hTS.out] at this; exact (usum_hi (by omega)).symm), rfl⟩
    · have hs2 := hs.out
      obtain rfl : k = xs.length := by omega
      go_wp2
      go_ret
      exact ⟨ret_u64 (by rw [List.take_of_length_le (Nat.le_refl _)] at *; exact (usum_lo hs2.1).symm), rfl⟩

theorem nAdd2 (x y : Int) (b cap : Nat) (hx : U x) (hy : U y) (w : World) (h0 : w.cell? ⟨b, 0, none⟩ = some (.int .u64 x)) (h1 : w.cell? ⟨b, 1, none⟩ = some (.int .u64 y)) :
    Calls Try.prog 55 #[.slice (some ⟨b, 0, none⟩) 2 cap] w fun e w' => e = .returned (.int .u64 (uadd x y)) ∧ w = w' := by
  have h := nAdd [x, y] b 0 cap (fun i hi => by rcases i with _ | _ | i; exact hx; exact hy; simp at hi; omega) (by unfold maxLen; simp) w
    (fun i hi => by rcases i with _ | _ | i; exact h0; exact h1; simp at hi; omega)
  rw [usum_two] at h
  exact h

end Go.Proofs.Ytfabgfenelaheaa
