/- WideMore: the walk. -/
import Derived.Test.YtnicanbkocphlaaWideKnown
set_option linter.unusedVariables false
namespace Go.Proofs.Ytnicanbkocphlaa
open Go.RowKit

attribute [local go_sem] ite_min ite_max

theorem or_ge {a b : Int} (ha : U a) (hb : U b) : a ≤ bits .or .u64 a b ∧ b ≤ bits .or .u64 a b ∧ U (bits .or .u64 a b) := by
  rw [u64_or a b ha.1 (by have := ha.2; omega) hb.1 (by have := hb.2; omega)]
  have h1 := Nat.left_le_or (n := a.toNat) (m := b.toNat)
  have h2 := Nat.right_le_or (n := a.toNat) (m := b.toNat)
  have h3 : a.toNat ||| b.toNat < 2 ^ 64 := Nat.or_lt_two_pow (by have := ha.2; omega) (by have := hb.2; omega)
  have h4 := ha.1
  have h5 := hb.1
  unfold U
  omega

theorem ediv_anti {n d e : Int} (hn : 0 ≤ n) (hd : 0 < d) (h : d ≤ e) : n / e ≤ n / d := by
  have h1 : n / e * e ≤ n := by rw [Int.mul_comm]; have := Int.mul_ediv_add_emod n e; have := Int.emod_nonneg n (show e ≠ 0 by omega); omega
  have h2 : 0 ≤ n / e := Int.ediv_nonneg hn (by omega)
  have h3 : n / e * d ≤ n / e * e := Int.mul_le_mul_of_nonneg_left h h2
  exact Int.le_ediv_of_mul_le hd (by omega)

theorem more_plain {h b b' x x' : Int} (hh : 0 ≤ h) (hb : 0 ≤ b) (hx : h < x) (hx' : x ≤ x') (hbb : b ≤ b') :
    divQ h b x ≤ divQ h b' x ∧ divQ h b x' ≤ divQ h b x ∧ divOk h x = true ∧ divOk h x' = true := by
  refine ⟨?_, ?_, decide_eq_true hx, decide_eq_true (by omega)⟩
  · unfold divQ; rw [if_pos hx, if_pos hx]
    exact Int.ediv_le_ediv (by omega) (by omega)
  · unfold divQ; rw [if_pos hx, if_pos (by omega)]
    exact ediv_anti (by omega) (by omega) hx'

set_option maxHeartbeats 1000000 in
theorem wMore (a b c d : Int) (ha : U a) (hb : U b) (hc : U c) (hd : U d) (w : World) :
    Calls Try.prog 4 #[.int .u64 a, .int .u64 b, .int .u64 c, .int .u64 d] w fun e w' => e = .returned (.bool true) ∧ Ext w w' := by
  have hx := or_ge hd (show U 9223372036854775808 by unfold U; omega)
  obtain ⟨x, ex⟩ : ∃ x, bits .or .u64 d 9223372036854775808 = x := ⟨_, rfl⟩
  rw [ex] at hx
  have hbc := or_ge hb hc
  obtain ⟨y, ey⟩ : ∃ x, bits .or .u64 b c = x := ⟨_, rfl⟩
  rw [ey] at hbc
  have hxc := or_ge hx.2.2 hc
  obtain ⟨z, ez⟩ : ∃ z, bits .or .u64 x c = z := ⟨_, rfl⟩
  rw [ez] at hxc
  have hx1 : 1 ≤ x := by omega
  have hm0 : 0 ≤ a % x := Int.emod_nonneg _ (by omega)
  have hm1 : a % x < x := Int.emod_lt_of_pos _ (by omega)
  have hxu := hx.2.2
  have hmu : U (a % x) := by unfold U at *; omega
  have hp := more_plain hm0 hb.1 hm1 hxc.1 hbc.1
  have hyu := hbc.2.2
  have hzu := hxc.2.2
  obtain ⟨q, eq⟩ : ∃ q, divQ (a % x) b x = q := ⟨_, rfl⟩
  obtain ⟨p, ep⟩ : ∃ q, divQ (a % x) y x = q := ⟨_, rfl⟩
  obtain ⟨r, er⟩ : ∃ q, divQ (a % x) b z = q := ⟨_, rfl⟩
  rw [eq, ep, er] at hp
  obtain ⟨hp1, hp2, hp3, hp4⟩ := hp
  have H := Lib.hid (And.intro eq (And.intro ep (And.intro er (And.intro hp3 hp4))))
  clear eq ep er hp3 hp4 hx hbc hxc
  have ha1 := ha.1
  go_enter Try.func4, Try.ntmps4
  go_wp2_with fail
  refine (wDiv (a % x) b x hmu hb hxu _).mono ?_
  rintro e w2 ⟨rfl, rfl⟩
  rw [H.out.1, H.out.2.2.2.1]
  go_wp2_with fail
  refine (wDiv (a % x) y x hmu hyu hxu _).mono ?_
  rintro e w2 ⟨rfl, rfl⟩
  rw [H.out.2.1, H.out.2.2.2.1]
  go_wp2_with fail
  refine (wDiv (a % x) b z hmu hb hzu _).mono ?_
  rintro e w2 ⟨rfl, rfl⟩
  rw [H.out.2.2.1, H.out.2.2.2.2]
  go_wp2_with fail
  refine (wKnown _).mono ?_
  rintro e w7 ⟨rfl, hb7⟩
  go_wp2
  go_ret
  exact ⟨rfl, by repeat (first | exact Ext.refl _ | assumption | apply Ext.drew | apply Ext.alloc | (refine Ext.setCell ?_ (by simp <;> omega) _) | refine Ext.trans ?_ (by assumption))⟩

end Go.Proofs.Ytnicanbkocphlaa
