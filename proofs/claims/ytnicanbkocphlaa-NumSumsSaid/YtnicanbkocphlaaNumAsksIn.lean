/- NumAsks: the inner function's walk, and the reference's sum of all. -/
import Derived.Test.YtnicanbkocphlaaNumKnown
set_option linter.unusedVariables false
namespace Go.Proofs.Ytnicanbkocphlaa
open Go.RowKit

attribute [local go_sem] ite_min ite_max

set_option maxHeartbeats 1000000 in
theorem nAsks (a b c : Int) (ha : U a) (hb : U b) (hc : U c) (w : World) :
    Calls Try.prog 32 #[.int .u64 a, .int .u64 b, .int .u64 c] w fun e w' => e = .returned (.bool true) ∧ Ext w w' := by
  go_enter Try.func32, Try.ntmps32
  go_wp2_with fail
  refine (nAdd2 a b _ _ ha hb _ ?_ ?_).mono ?_
  · go_simp
  · go_simp
  rintro e w1 ⟨rfl, rfl⟩
  go_wp2_with fail
  refine (rAdd a b ha hb _).mono ?_
  rintro e w1 ⟨rfl, rfl⟩
  go_wp2_with fail
  refine (nMul a b ha hb _).mono ?_
  rintro e w1 ⟨rfl, hb1⟩
  go_wp2_with fail
  refine (r2Mul a b ha hb _).mono ?_
  rintro e w2 ⟨rfl, rfl⟩
  go_wp2_with fail
  refine (nSub a b ha hb _).mono ?_
  rintro e w2 ⟨rfl, rfl⟩
  go_wp2_with fail
  refine (rSub a b ha hb _).mono ?_
  rintro e w2 ⟨rfl, rfl⟩
  go_wp2_with fail
  refine (nDiv a b ha hb _).mono ?_
  rintro e w2 ⟨rfl, rfl⟩
  go_wp2_with fail
  refine (r2Div a b ha hb _).mono ?_
  rintro e w2 ⟨rfl, rfl⟩
  go_wp2_with fail
  refine (nCeil a b ha hb _).mono ?_
  rintro e w2 ⟨rfl, rfl⟩
  go_wp2_with fail
  refine (r2Ceil a b ha hb _).mono ?_
  rintro e w2 ⟨rfl, rfl⟩
  go_wp2_with fail
  refine (nFits a b c ha hb hc _).mono ?_
  rintro e w2 ⟨rfl, rfl⟩
  go_wp2_with fail
  refine (rFits a b c ha hb hc _).mono ?_
  rintro e w2 ⟨rfl, rfl⟩
  go_wp2
  go_ret
  exact ⟨rfl, by repeat (first | exact Ext.refl _ | assumption | apply Ext.drew | apply Ext.alloc | (refine Ext.setCell ?_ (by simp <;> omega) _) | refine Ext.trans ?_ (by assumption))⟩

theorem uadd_usum (l : List Int) (k : Nat) (h : k < l.length) (hx : ∀ i, i < l.length → U (l.getD i 0)) : uadd (usum (l.take k)) (l.getD k 0) = usum (l.take (k + 1)) := by
  have hn := (hx k h).lo
  unfold usum uadd
  rw [sum_take_succ l k h]; omega

theorem usum_U (l : List Int) (hx : ∀ i, i < l.length → U (l.getD i 0)) : U (usum l) := by
  have h := sum_take_le l 0 hx
  simp at h
  unfold usum U; omega

theorem take_getD {l : List Int} {k i : Nat} (h : i < (l.take k).length) : (l.take k).getD i 0 = l.getD i 0 := by
  have h' : i < k ∧ i < l.length := by simp at h; omega
  simp [List.getD, h'.1]

set_option maxHeartbeats 400000 in
theorem rAll (xs : List Int) (b off cap : Nat) (hx : ∀ i, i < xs.length → U (xs.getD i 0)) (hl : xs.length ≤ maxLen) (w : World)
    (hc : ∀ i, i < xs.length → w.cell? ⟨b, off + i, none⟩ = some (.int .u64 (xs.getD i 0))) :
    Calls Try.prog 34 #[.slice (some ⟨b, off, none⟩) xs.length cap] w fun e w' => e = .returned (.int .u64 (usum xs)) ∧ w = w' := by
  unfold maxLen at hl
  have hC := Lib.hid hc; clear hc
  have hX := Lib.hid hx; clear hx
  go_enter Try.func34, Try.ntmps34
  go_wp2
  go_loop [3, 4] (fun s i => ∃ k : Nat, k ≤ xs.length ∧ s = .int .u64 (usum (xs.take k)) ∧ i = .int .i64 k) (fun _ i => xs.length - (intOf i).toNat)
  case atStart => exact ⟨0, Nat.zero_le _, rfl, rfl⟩
  case round =>
    obtain ⟨k, hk, rfl, rfl⟩ := hrel
    by_cases hlt : k < xs.length
    · have hcell := hC.out k hlt
      have hU := hX.out k hlt
      have hs := Lib.hid (uadd_usum xs k hlt hX.out)
      have hSU : U (usum (xs.take k)) := usum_U _ (fun i hi => by
        have h' : i < k ∧ i < xs.length := by simp at hi; omega
        rw [take_getD hi]; exact hX.out i h'.2)
      obtain ⟨x, ex⟩ : ∃ x, xs.getD k 0 = x := ⟨_, rfl⟩
      rw [ex] at hcell hU hs
      obtain ⟨S, eS⟩ : ∃ S, usum (xs.take k) = S := ⟨_, rfl⟩
      rw [eS] at hs hSU ⊢
      clear ex eS
      go_wp2_with fail
      refine (rAdd S x hSU hU _).mono ?_
      rintro e w1 ⟨rfl, rfl⟩
      go_wp2
      go_round
      case rel => exact ⟨k + 1, by omega, by rw [hs.out], by go_num⟩
      case measure => simp [intOf]; omega
    · obtain rfl : k = xs.length := by omega
      go_wp2
      go_ret
      exact ⟨rfl, rfl⟩

theorem rAllNil (cap : Nat) (w : World) :
    Calls Try.prog 34 #[.slice none 0 cap] w fun e w' => e = .returned (.int .u64 0) ∧ w = w' := by
  go_enter Try.func34, Try.ntmps34
  go_wp2
  go_loop [3, 4] (fun s i => s = .int .u64 0 ∧ i = .int .i64 0) (fun _ _ => 0)
  case atStart => exact ⟨rfl, rfl⟩
  case round =>
    obtain ⟨rfl, rfl⟩ := hrel
    go_wp2
    go_ret
    exact ⟨rfl, rfl⟩

end Go.Proofs.Ytnicanbkocphlaa
