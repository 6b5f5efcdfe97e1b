/- Contracts of wide.MulDiv and of the reference of the layer wide. -/
import Derived.Test.YtdgcgpapcbjfhaaGreatDoorJ02Bucket
import Derived.Test.YtdgcgpapcbjfhaaGreatDoorJ05DivSpec
set_option linter.unusedVariables false
set_option linter.unusedSimpArgs false

/- Contracts of the layer wide. -/
namespace Go.Proofs.YtdgcgpapcbjfhaaGreatDoor
open Go.RowKit

attribute [local go_sem] ite_min ite_max

theorem and_mask (n : Int) (h0 : 0 ≤ n) (h1 : n ≤ 18446744073709551615) : bits .and .u64 n 4294967295 = n % 4294967296 := by
  rw [u64_and n 4294967295 h0 (by omega) (by omega) (by omega)]
  have e : (4294967295 : Int).toNat = 2 ^ 32 - 1 := by decide
  rw [e, Nat.and_two_pow_sub_one_eq_mod]
  omega

theorem or_low (t r : Int) (ht : 0 ≤ t) (ht' : t < 4294967296) (hr : 0 ≤ r) (hr' : r < 4294967296) : bits .or .u64 (t * 4294967296) r = t * 4294967296 + r := by
  rw [u64_or _ _ (by omega) (by omega) hr (by omega)]
  have e : (t * 4294967296).toNat = t.toNat <<< 32 := by rw [Nat.shiftLeft_eq]; omega
  rw [e, ← Nat.shiftLeft_add_eq_or_of_lt (by omega : r.toNat < 2 ^ 32)]
  rw [Nat.shiftLeft_eq]; omega

theorem wrap_shl32 (t : Int) : IntKind.u64.wrap (t * 4294967296) = t % 4294967296 * 4294967296 := by rw [IntKind.wrap_u64]; omega

theorem ret_2 {a b a' b' : Int} (h : a = a') (h' : b = b') : Ending.returned (.tuple #[.int .u64 a, .int .u64 b]) = .returned (.tuple #[.int .u64 a', .int .u64 b']) := by rw [h, h']

theorem wParts (n : Int) (hn : U n) (w : World) :
    Calls Tryz.prog 189 #[.int .u64 n] w fun e w' => e = .returned (.agg #[.int .u64 (n % 4294967296), .int .u64 (n / 4294967296)]) ∧ Ext w w' := by
  obtain ⟨h1, h2⟩ := hn
  have hm := and_mask n h1 h2
  go_enter Tryz.func189, Tryz.ntmps189
  go_wp2
  exact bodyPost_ret (v := .agg #[.int .u64 (n % 4294967296), .int .u64 (n / 4294967296)]) (by simp [results, Tryz.results189, go_sem]) rfl ⟨rfl, by repeat (first | exact Ext.refl _ | assumption | apply Ext.drew | apply Ext.alloc | (refine Ext.setCell ?_ (by simp <;> omega) _) | refine Ext.trans ?_ (by assumption))⟩

theorem wMul (a b : Int) (ha : U a) (hb : U b) (w : World) :
    Calls Tryz.prog 152 #[.int .u64 a, .int .u64 b] w fun e w' => e = .returned (.tuple #[.int .u64 (mulH a b), .int .u64 (mulL a b)]) ∧ Ext w w' := by
  obtain ⟨x0, ex0⟩ : ∃ x, a % 4294967296 = x := ⟨_, rfl⟩
  obtain ⟨x1, ex1⟩ : ∃ x, a / 4294967296 = x := ⟨_, rfl⟩
  obtain ⟨y0, ey0⟩ : ∃ x, b % 4294967296 = x := ⟨_, rfl⟩
  obtain ⟨y1, ey1⟩ : ∃ x, b / 4294967296 = x := ⟨_, rfl⟩
  have hP := mul_parts (a := a) (b := b) (x0 := x0) (x1 := x1) (y0 := y0) (y1 := y1) (by omega) (by omega)
  have ux0 : 0 ≤ x0 ∧ x0 ≤ 4294967295 := by omega
  have ux1 : 0 ≤ x1 ∧ x1 ≤ 4294967295 := by have := ha.lo; have := ha.hi; omega
  have uy0 : 0 ≤ y0 ∧ y0 ≤ 4294967295 := by omega
  have uy1 : 0 ≤ y1 ∧ y1 ≤ 4294967295 := by have := hb.lo; have := hb.hi; omega
  obtain ⟨P00, e00⟩ : ∃ x, x0 * y0 = x := ⟨_, rfl⟩
  obtain ⟨P01, e01⟩ : ∃ x, x0 * y1 = x := ⟨_, rfl⟩
  obtain ⟨P10, e10⟩ : ∃ x, x1 * y0 = x := ⟨_, rfl⟩
  obtain ⟨P11, e11⟩ : ∃ x, x1 * y1 = x := ⟨_, rfl⟩
  have b00 : 0 ≤ P00 ∧ P00 ≤ 18446744065119617025 := by have := mul_le_of ux0.1 ux0.2 uy0.1 uy0.2; rw [e00] at this; omega
  have b01 : 0 ≤ P01 ∧ P01 ≤ 18446744065119617025 := by have := mul_le_of ux0.1 ux0.2 uy1.1 uy1.2; rw [e01] at this; omega
  have b10 : 0 ≤ P10 ∧ P10 ≤ 18446744065119617025 := by have := mul_le_of ux1.1 ux1.2 uy0.1 uy0.2; rw [e10] at this; omega
  have b11 : 0 ≤ P11 ∧ P11 ≤ 18446744065119617025 := by have := mul_le_of ux1.1 ux1.2 uy1.1 uy1.2; rw [e11] at this; omega
  rw [e00, e01, e10, e11] at hP
  have hS := Lib.hid (mul_school hP b00 b01 b10 b11)
  have HX := Lib.hid (And.intro ex0 (And.intro ex1 (And.intro ey0 ey1)))
  clear hP ex0 ex1 ey0 ey1
  obtain ⟨b00a, b00b⟩ := b00
  obtain ⟨b01a, b01b⟩ := b01
  obtain ⟨b10a, b10b⟩ := b10
  obtain ⟨b11a, b11b⟩ := b11
  have hm1 := and_mask (P10 + P00 / 4294967296) (by omega) (by omega)
  have hm2 := and_mask P00 (by omega) (by omega)
  go_enter Tryz.func152, Tryz.ntmps152
  go_wp2_with fail
  refine (wParts a ha _).mono ?_
  rintro e1 w1 ⟨rfl, hb1⟩
  rw [HX.out.1, HX.out.2.1]
  go_wp2_with fail
  refine (wParts b hb _).mono ?_
  rintro e2 w2 ⟨rfl, hb2⟩
  rw [HX.out.2.2.1, HX.out.2.2.2]
  go_wp2
  go_ret2
  refine ⟨ret_2 hS.out.1.symm ?_, by repeat (first | exact Ext.refl _ | assumption | apply Ext.drew | apply Ext.alloc | (refine Ext.setCell ?_ (by simp <;> omega) _) | refine Ext.trans ?_ (by assumption))⟩
  rw [hS.out.2, ← or_low _ _ (by omega) (by omega) (by omega) (by omega), wrap_shl32]

end Go.Proofs.YtdgcgpapcbjfhaaGreatDoor

/- Contracts of wide.Div, wide.MulDiv. -/
namespace Go.Proofs.YtdgcgpapcbjfhaaGreatDoor
open Go.RowKit

attribute [local go_sem] ite_min ite_max

theorem or_bit (t b : Int) (ht : 0 ≤ t) (ht' : t ≤ 9223372036854775807) (hb : b = 0 ∨ b = 1) : bits .or .u64 (t * 2) b = 2 * t + b := by
  rw [u64_or _ _ (by omega) (by omega) (by omega) (by omega)]
  have e : (t * 2).toNat = t.toNat <<< 1 := by rw [Nat.shiftLeft_eq]; omega
  rw [e, ← Nat.shiftLeft_add_eq_or_of_lt (by omega : b.toNat < 2 ^ 1)]
  rw [Nat.shiftLeft_eq]; omega

end Go.Proofs.YtdgcgpapcbjfhaaGreatDoor

/- Contracts of wide.MulDiv and of the reference of the layer wide. -/
namespace Go.Proofs.YtdgcgpapcbjfhaaGreatDoor
open Go.RowKit

attribute [local go_sem] ite_min ite_max

end Go.Proofs.YtdgcgpapcbjfhaaGreatDoor
