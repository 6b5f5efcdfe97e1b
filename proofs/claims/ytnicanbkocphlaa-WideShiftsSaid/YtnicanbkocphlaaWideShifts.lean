/- WideShifts: the walk. -/
import Derived.Test.YtnicanbkocphlaaWideKnown
set_option linter.unusedVariables false
namespace Go.Proofs.Ytnicanbkocphlaa
open Go.RowKit

attribute [local go_sem] ite_min ite_max

theorem shift_plain {a p : Int} (ha : U a) (hp : 1 ≤ p) (hp' : p ≤ 9223372036854775808) :
    mulH a p < p ∧ divQ (mulH a p) (mulL a p) p = a ∧ divR (mulH a p) (mulL a p) p = 0 ∧ divOk (mulH a p) p = true := by
  have hlt : mulH a p < p := by
    have : a * p ≤ 18446744073709551615 * p := Int.mul_le_mul_of_nonneg_right ha.2 (by omega)
    unfold mulH; omega
  refine ⟨hlt, ?_, ?_, decide_eq_true hlt⟩
  · unfold divQ; rw [if_pos hlt, mul_split]; exact Int.mul_ediv_cancel _ (by omega)
  · unfold divR; rw [if_pos hlt, mul_split]; exact Int.mul_emod_left _ _

theorem shift_up {a : Int} (n : Nat) (h0 : 0 < n) (h : n < 64) : mulH a (2 ^ n) = a / 2 ^ (64 - n) := by
  unfold mulH
  have e : (18446744073709551616 : Int) = 2 ^ (64 - n) * 2 ^ n := by
    rw [← Int.pow_add, show 64 - n + n = 64 from by omega]; decide
  rw [e, Int.mul_ediv_mul_of_pos_left _ _ (Int.pow_pos (by omega))]

set_option maxHeartbeats 1000000 in
theorem wShifts (a k : Int) (ha : U a) (hk : 0 ≤ k ∧ k ≤ 255) (w : World) :
    Calls Try.prog 3 #[.int .u64 a, .int .u8 k] w fun e w' => e = .returned (.bool true) ∧ Ext w w' := by
  obtain ⟨hk1, hk2⟩ := hk
  obtain ⟨n, hn⟩ : ∃ n : Nat, k % 64 = n := ⟨(k % 64).toNat, by omega⟩
  have hn64 : n < 64 := by omega
  have hpow : (2 : Int) ^ n ≤ 2 ^ 63 := by exact_mod_cast Nat.pow_le_pow_right (by omega) (by omega : n ≤ 63)
  have hpow1 : (0 : Int) < 2 ^ n := Int.pow_pos (by omega)
  have h63 : (2 : Int) ^ 63 = 9223372036854775808 := by decide
  rw [h63] at hpow
  have hup := @shift_up a n
  have hpl := shift_plain (p := 2 ^ n) ha (by omega) hpow
  obtain ⟨D, eD⟩ : ∃ D : Int, (2 : Int) ^ (64 - n) = D := ⟨_, rfl⟩
  have hD : 0 < D := by rw [← eD]; exact Int.pow_pos (by omega)
  rw [eD] at hup
  obtain ⟨p, ep⟩ : ∃ p : Int, (2 : Int) ^ n = p := ⟨_, rfl⟩
  rw [ep] at hpow hpow1 hup hpl
  have hpu : U p := by unfold U; omega
  have hwl : IntKind.u64.wrap (a * p) = mulL a p := by rw [IntKind.wrap_u64]; rfl
  have hHU := mulH_U ha hpu
  have hLU := mulL_U ha hpu
  have hz : n = 0 → mulH a p = 0 := by
    intro h; subst h
    have : p = 1 := by rw [← ep]; rfl
    subst this; unfold mulH; have := ha.1; have := ha.2; omega
  obtain ⟨H, eH⟩ : ∃ x, mulH a p = x := ⟨_, rfl⟩
  obtain ⟨L, eL⟩ : ∃ x, mulL a p = x := ⟨_, rfl⟩
  rw [eH] at hup hpl hHU hz
  rw [eL] at hpl hwl hLU
  obtain ⟨hlt, hq, hr, hok⟩ := hpl
  have HH := Lib.hid (And.intro eH (And.intro eL (And.intro hq (And.intro hr hok))))
  clear eH eL hq hr hok h63
  have ha' := ha
  obtain ⟨ha1, ha2⟩ := ha
  have hnn : (k % 64).toNat = n := by omega
  by_cases h0 : n = 0
  · have hH0 := hz h0
    subst hH0
    have hk0 : k % 64 = 0 := by omega
    clear hup hz hn
    go_enter Try.func3, Try.ntmps3
    subst h0
    have hp1 : p = 1 := by rw [← ep]; rfl
    subst hp1
    clear ep eD hnn
    have hL : L = a := by have := HH.out.2.1; unfold mulL at this; omega
    subst hL
    go_wp2_with fail
    refine (wMul L 1 ha' hpu _).mono ?_
    rintro e w1 ⟨rfl, hb1⟩
    rw [HH.out.1, HH.out.2.1]
    go_wp2_with fail
    refine (wDiv 0 L 1 hHU hLU hpu _).mono ?_
    rintro e w2 ⟨rfl, rfl⟩
    rw [HH.out.2.2.1, HH.out.2.2.2.1, HH.out.2.2.2.2]
    go_wp2_with fail
    refine (wKnown _).mono ?_
    rintro e w7 ⟨rfl, hb7⟩
    go_wp2
    go_ret
    exact ⟨rfl, by repeat (first | exact Ext.refl _ | assumption | apply Ext.drew | apply Ext.alloc | (refine Ext.setCell ?_ (by simp <;> omega) _) | refine Ext.trans ?_ (by assumption))⟩
  · have hup' := hup (by omega) hn64
    clear hup hz
    have hkn : 0 < n := by omega
    subst hup'
    go_enter Try.func3, Try.ntmps3
    go_wp2_with fail
    refine (wMul a p ha' hpu _).mono ?_
    rintro e w1 ⟨rfl, hb1⟩
    rw [HH.out.1, HH.out.2.1]
    go_wp2_with fail
    refine (wDiv (a / D) L p hHU hLU hpu _).mono ?_
    rintro e w2 ⟨rfl, rfl⟩
    rw [HH.out.2.2.1, HH.out.2.2.2.1, HH.out.2.2.2.2]
    go_wp2_with fail
    refine (wKnown _).mono ?_
    rintro e w7 ⟨rfl, hb7⟩
    go_wp2
    go_ret
    exact ⟨rfl, by repeat (first | exact Ext.refl _ | assumption | apply Ext.drew | apply Ext.alloc | (refine Ext.setCell ?_ (by simp <;> omega) _) | refine Ext.trans ?_ (by assumption))⟩

end Go.Proofs.Ytnicanbkocphlaa
