/- NumEnds: the walk. -/
import Derived.Test.YtnicanbkocphlaaNumKnown
set_option linter.unusedVariables false
namespace Go.Proofs.Ytnicanbkocphlaa
open Go.RowKit

attribute [local go_sem] ite_min ite_max

set_option maxHeartbeats 400000 in
theorem nEnds_z (a : Int) (ha' : U a) (H : Hid (uadd a 0 = a ∧ umul a 0 = 0 ∧ usub a 0 = a ∧ usub a a = 0)) (w : World) :
    Calls Try.prog 12 #[.int .u64 a, .int .u64 0] w fun e w' => e = .returned (.bool true) ∧ Ext w w' := by
    obtain ⟨ha1, ha2⟩ := id ha'
    have hb' : U 0 := by unfold U; omega
    go_enter Try.func12, Try.ntmps12
    simp only [List.append_eq, List.cons_append, List.nil_append]
    go_wp2_with fail
    refine (nAdd2 a 0 _ _ ha' hb' _ ?_ ?_).mono ?_
    · go_simp
    · go_simp
    rintro e w1 ⟨rfl, rfl⟩
    rw [H.out.1]
    go_wp2_with fail
    refine (nMul a 0 ha' hb' _).mono ?_
    rintro e w1 ⟨rfl, hb1⟩
    rw [H.out.2.1]
    go_wp2_with fail
    refine (nKnown _).mono ?_
    rintro e w2 ⟨rfl, hb2⟩
    go_wp2_with fail
    refine (nSub a 0 ha' hb' _).mono ?_
    rintro e w3 ⟨rfl, rfl⟩
    rw [H.out.2.2.1]
    go_wp2_with fail
    refine (nAdd2 a 0 _ _ ha' hb' _ ?_ ?_).mono ?_
    · go_simp
    · go_simp
    rintro e w3 ⟨rfl, rfl⟩
    rw [H.out.1]
    go_wp2_with fail
    refine (nSub a a ha' ha' _).mono ?_
    rintro e w3 ⟨rfl, rfl⟩
    rw [H.out.2.2.2]
    go_wp2_with fail
    refine (nSub a 0 ha' hb' _).mono ?_
    rintro e w3 ⟨rfl, rfl⟩
    rw [H.out.2.2.1]
    go_wp2
    go_ret
    exact ⟨rfl, by repeat (first | exact Ext.refl _ | assumption | apply Ext.drew | apply Ext.alloc | (refine Ext.setCell ?_ (by simp <;> omega) _) | refine Ext.trans ?_ (by assumption))⟩

set_option maxHeartbeats 400000 in
theorem nEnds_fwl (a b S P D : Int) (ha' : U a) (hb' : U b) (H : Hid (uadd a b = S ∧ umul a b = P ∧ usub a b = D ∧ uadd a 0 = a ∧ usub a a = 0)) (hD0 : 0 ≤ D) (hDle : D ≤ a) (ho : a + b ≤ 18446744073709551615) (hS : S = a + b) (hz : (b == 0) = false) (hb1 : 1 ≤ b) (E : Int) (hE : 18446744073709551615 / b = E) (hE1 : E ≤ 18446744073709551615) (hE0 : 0 ≤ E) (haE : a ≤ E) (hP : a * b = P) (hP0 : 0 ≤ P) (hP1 : P ≤ 18446744073709551615) (hlt : a < b) (w : World) :
    Calls Try.prog 12 #[.int .u64 a, .int .u64 b] w fun e w' => e = .returned (.bool true) ∧ Ext w w' := by
    obtain ⟨ha1, ha2⟩ := id ha'
    obtain ⟨hb1, hb2⟩ := id hb'
    subst hS
    go_enter Try.func12, Try.ntmps12
    simp only [List.append_eq, List.cons_append, List.nil_append]
    go_wp2_with fail
    refine (nAdd2 a b _ _ ha' hb' _ ?_ ?_).mono ?_
    · go_simp
    · go_simp
    rintro e w1 ⟨rfl, rfl⟩
    rw [H.out.1]
    go_wp2_with fail
    refine (nMul a b ha' hb' _).mono ?_
    rintro e w1 ⟨rfl, hb1⟩
    rw [H.out.2.1]
    go_wp2_with fail
    refine (nKnown _).mono ?_
    rintro e w2 ⟨rfl, hb2⟩
    go_wp2_with fail
    refine (nSub a b ha' hb' _).mono ?_
    rintro e w3 ⟨rfl, rfl⟩
    rw [H.out.2.2.1]
    go_wp2_with fail
    refine (nAdd2 a 0 _ _ ha' (by unfold U; omega) _ ?_ ?_).mono ?_
    · go_simp
    · go_simp
    rintro e w3 ⟨rfl, rfl⟩
    rw [H.out.2.2.2.1]
    go_wp2_with fail
    refine (nSub a a ha' ha' _).mono ?_
    rintro e w3 ⟨rfl, rfl⟩
    rw [H.out.2.2.2.2]
    go_wp2
    go_ret
    exact ⟨rfl, by repeat (first | exact Ext.refl _ | assumption | apply Ext.drew | apply Ext.alloc | (refine Ext.setCell ?_ (by simp <;> omega) _) | refine Ext.trans ?_ (by assumption))⟩

set_option maxHeartbeats 400000 in
theorem nEnds_fwg (a b S P D : Int) (ha' : U a) (hb' : U b) (H : Hid (uadd a b = S ∧ umul a b = P ∧ usub a b = D ∧ uadd a 0 = a ∧ usub a a = 0)) (hD0 : 0 ≤ D) (hDle : D ≤ a) (ho : a + b ≤ 18446744073709551615) (hS : S = a + b) (hz : (b == 0) = false) (hb1 : 1 ≤ b) (E : Int) (hE : 18446744073709551615 / b = E) (hE1 : E ≤ 18446744073709551615) (hE0 : 0 ≤ E) (haE : a ≤ E) (hP : a * b = P) (hP0 : 0 ≤ P) (hP1 : P ≤ 18446744073709551615) (hlt : b ≤ a) (hDb : D + b = a) (w : World) :
    Calls Try.prog 12 #[.int .u64 a, .int .u64 b] w fun e w' => e = .returned (.bool true) ∧ Ext w w' := by
    obtain ⟨ha1, ha2⟩ := id ha'
    obtain ⟨hb1, hb2⟩ := id hb'
    subst hS
    go_enter Try.func12, Try.ntmps12
    simp only [List.append_eq, List.cons_append, List.nil_append]
    go_wp2_with fail
    refine (nAdd2 a b _ _ ha' hb' _ ?_ ?_).mono ?_
    · go_simp
    · go_simp
    rintro e w1 ⟨rfl, rfl⟩
    rw [H.out.1]
    go_wp2_with fail
    refine (nMul a b ha' hb' _).mono ?_
    rintro e w1 ⟨rfl, hb1⟩
    rw [H.out.2.1]
    go_wp2_with fail
    refine (nKnown _).mono ?_
    rintro e w2 ⟨rfl, hb2⟩
    go_wp2_with fail
    refine (nSub a b ha' hb' _).mono ?_
    rintro e w3 ⟨rfl, rfl⟩
    rw [H.out.2.2.1]
    go_wp2_with fail
    refine (nAdd2 a 0 _ _ ha' (by unfold U; omega) _ ?_ ?_).mono ?_
    · go_simp
    · go_simp
    rintro e w3 ⟨rfl, rfl⟩
    rw [H.out.2.2.2.1]
    go_wp2_with fail
    refine (nSub a a ha' ha' _).mono ?_
    rintro e w3 ⟨rfl, rfl⟩
    rw [H.out.2.2.2.2]
    go_wp2_with fail
    refine (nSub a b ha' hb' _).mono ?_
    rintro e w3 ⟨rfl, rfl⟩
    rw [H.out.2.2.1]
    go_wp2
    go_ret
    exact ⟨rfl, by repeat (first | exact Ext.refl _ | assumption | apply Ext.drew | apply Ext.alloc | (refine Ext.setCell ?_ (by simp <;> omega) _) | refine Ext.trans ?_ (by assumption))⟩

set_option maxHeartbeats 400000 in
theorem nEnds_fnl (a b S P D : Int) (ha' : U a) (hb' : U b) (H : Hid (uadd a b = S ∧ umul a b = P ∧ usub a b = D ∧ uadd a 0 = a ∧ usub a a = 0)) (hD0 : 0 ≤ D) (hDle : D ≤ a) (ho : a + b ≤ 18446744073709551615) (hS : S = a + b) (hz : (b == 0) = false) (hb1 : 1 ≤ b) (E : Int) (hE : 18446744073709551615 / b = E) (hE1 : E ≤ 18446744073709551615) (hE0 : 0 ≤ E) (haE : E < a) (hP : P = 18446744073709551615) (hlt : a < b) (w : World) :
    Calls Try.prog 12 #[.int .u64 a, .int .u64 b] w fun e w' => e = .returned (.bool true) ∧ Ext w w' := by
    obtain ⟨ha1, ha2⟩ := id ha'
    obtain ⟨hb1, hb2⟩ := id hb'
    subst hS
    subst hP
    go_enter Try.func12, Try.ntmps12
    simp only [List.append_eq, List.cons_append, List.nil_append]
    go_wp2_with fail
    refine (nAdd2 a b _ _ ha' hb' _ ?_ ?_).mono ?_
    · go_simp
    · go_simp
    rintro e w1 ⟨rfl, rfl⟩
    rw [H.out.1]
    go_wp2_with fail
    refine (nMul a b ha' hb' _).mono ?_
    rintro e w1 ⟨rfl, hb1⟩
    rw [H.out.2.1]
    go_wp2_with fail
    refine (nKnown _).mono ?_
    rintro e w2 ⟨rfl, hb2⟩
    go_wp2_with fail
    refine (nSub a b ha' hb' _).mono ?_
    rintro e w3 ⟨rfl, rfl⟩
    rw [H.out.2.2.1]
    go_wp2_with fail
    refine (nAdd2 a 0 _ _ ha' (by unfold U; omega) _ ?_ ?_).mono ?_
    · go_simp
    · go_simp
    rintro e w3 ⟨rfl, rfl⟩
    rw [H.out.2.2.2.1]
    go_wp2_with fail
    refine (nSub a a ha' ha' _).mono ?_
    rintro e w3 ⟨rfl, rfl⟩
    rw [H.out.2.2.2.2]
    go_wp2
    go_ret
    exact ⟨rfl, by repeat (first | exact Ext.refl _ | assumption | apply Ext.drew | apply Ext.alloc | (refine Ext.setCell ?_ (by simp <;> omega) _) | refine Ext.trans ?_ (by assumption))⟩

set_option maxHeartbeats 400000 in
theorem nEnds_fng (a b S P D : Int) (ha' : U a) (hb' : U b) (H : Hid (uadd a b = S ∧ umul a b = P ∧ usub a b = D ∧ uadd a 0 = a ∧ usub a a = 0)) (hD0 : 0 ≤ D) (hDle : D ≤ a) (ho : a + b ≤ 18446744073709551615) (hS : S = a + b) (hz : (b == 0) = false) (hb1 : 1 ≤ b) (E : Int) (hE : 18446744073709551615 / b = E) (hE1 : E ≤ 18446744073709551615) (hE0 : 0 ≤ E) (haE : E < a) (hP : P = 18446744073709551615) (hlt : b ≤ a) (hDb : D + b = a) (w : World) :
    Calls Try.prog 12 #[.int .u64 a, .int .u64 b] w fun e w' => e = .returned (.bool true) ∧ Ext w w' := by
    obtain ⟨ha1, ha2⟩ := id ha'
    obtain ⟨hb1, hb2⟩ := id hb'
    subst hS
    subst hP
    go_enter Try.func12, Try.ntmps12
    simp only [List.append_eq, List.cons_append, List.nil_append]
    go_wp2_with fail
    refine (nAdd2 a b _ _ ha' hb' _ ?_ ?_).mono ?_
    · go_simp
    · go_simp
    rintro e w1 ⟨rfl, rfl⟩
    rw [H.out.1]
    go_wp2_with fail
    refine (nMul a b ha' hb' _).mono ?_
    rintro e w1 ⟨rfl, hb1⟩
    rw [H.out.2.1]
    go_wp2_with fail
    refine (nKnown _).mono ?_
    rintro e w2 ⟨rfl, hb2⟩
    go_wp2_with fail
    refine (nSub a b ha' hb' _).mono ?_
    rintro e w3 ⟨rfl, rfl⟩
    rw [H.out.2.2.1]
    go_wp2_with fail
    refine (nAdd2 a 0 _ _ ha' (by unfold U; omega) _ ?_ ?_).mono ?_
    · go_simp
    · go_simp
    rintro e w3 ⟨rfl, rfl⟩
    rw [H.out.2.2.2.1]
    go_wp2_with fail
    refine (nSub a a ha' ha' _).mono ?_
    rintro e w3 ⟨rfl, rfl⟩
    rw [H.out.2.2.2.2]
    go_wp2_with fail
    refine (nSub a b ha' hb' _).mono ?_
    rintro e w3 ⟨rfl, rfl⟩
    rw [H.out.2.2.1]
    go_wp2
    go_ret
    exact ⟨rfl, by repeat (first | exact Ext.refl _ | assumption | apply Ext.drew | apply Ext.alloc | (refine Ext.setCell ?_ (by simp <;> omega) _) | refine Ext.trans ?_ (by assumption))⟩

set_option maxHeartbeats 400000 in
theorem nEnds_owl (a b S P D : Int) (ha' : U a) (hb' : U b) (H : Hid (uadd a b = S ∧ umul a b = P ∧ usub a b = D ∧ uadd a 0 = a ∧ usub a a = 0)) (hD0 : 0 ≤ D) (hDle : D ≤ a) (T : Int) (hT : IntKind.u64.wrap (a + b) = T) (hTa : T < a) (hT0 : 0 ≤ T) (hS : S = 18446744073709551615) (hz : (b == 0) = false) (hb1 : 1 ≤ b) (E : Int) (hE : 18446744073709551615 / b = E) (hE1 : E ≤ 18446744073709551615) (hE0 : 0 ≤ E) (haE : a ≤ E) (hP : a * b = P) (hP0 : 0 ≤ P) (hP1 : P ≤ 18446744073709551615) (hlt : a < b) (w : World) :
    Calls Try.prog 12 #[.int .u64 a, .int .u64 b] w fun e w' => e = .returned (.bool true) ∧ Ext w w' := by
    obtain ⟨ha1, ha2⟩ := id ha'
    obtain ⟨hb1, hb2⟩ := id hb'
    subst hS
    go_enter Try.func12, Try.ntmps12
    simp only [List.append_eq, List.cons_append, List.nil_append]
    go_wp2_with fail
    refine (nAdd2 a b _ _ ha' hb' _ ?_ ?_).mono ?_
    · go_simp
    · go_simp
    rintro e w1 ⟨rfl, rfl⟩
    rw [H.out.1]
    go_wp2_with fail
    refine (nMul a b ha' hb' _).mono ?_
    rintro e w1 ⟨rfl, hb1⟩
    rw [H.out.2.1]
    go_wp2_with fail
    refine (nKnown _).mono ?_
    rintro e w2 ⟨rfl, hb2⟩
    go_wp2_with fail
    refine (nSub a b ha' hb' _).mono ?_
    rintro e w3 ⟨rfl, rfl⟩
    rw [H.out.2.2.1]
    go_wp2_with fail
    refine (nAdd2 a 0 _ _ ha' (by unfold U; omega) _ ?_ ?_).mono ?_
    · go_simp
    · go_simp
    rintro e w3 ⟨rfl, rfl⟩
    rw [H.out.2.2.2.1]
    go_wp2_with fail
    refine (nSub a a ha' ha' _).mono ?_
    rintro e w3 ⟨rfl, rfl⟩
    rw [H.out.2.2.2.2]
    go_wp2
    go_ret
    exact ⟨rfl, by repeat (first | exact Ext.refl _ | assumption | apply Ext.drew | apply Ext.alloc | (refine Ext.setCell ?_ (by simp <;> omega) _) | refine Ext.trans ?_ (by assumption))⟩

set_option maxHeartbeats 400000 in
theorem nEnds_owg (a b S P D : Int) (ha' : U a) (hb' : U b) (H : Hid (uadd a b = S ∧ umul a b = P ∧ usub a b = D ∧ uadd a 0 = a ∧ usub a a = 0)) (hD0 : 0 ≤ D) (hDle : D ≤ a) (T : Int) (hT : IntKind.u64.wrap (a + b) = T) (hTa : T < a) (hT0 : 0 ≤ T) (hS : S = 18446744073709551615) (hz : (b == 0) = false) (hb1 : 1 ≤ b) (E : Int) (hE : 18446744073709551615 / b = E) (hE1 : E ≤ 18446744073709551615) (hE0 : 0 ≤ E) (haE : a ≤ E) (hP : a * b = P) (hP0 : 0 ≤ P) (hP1 : P ≤ 18446744073709551615) (hlt : b ≤ a) (hDb : D + b = a) (w : World) :
    Calls Try.prog 12 #[.int .u64 a, .int .u64 b] w fun e w' => e = .returned (.bool true) ∧ Ext w w' := by
    obtain ⟨ha1, ha2⟩ := id ha'
    obtain ⟨hb1, hb2⟩ := id hb'
    subst hS
    go_enter Try.func12, Try.ntmps12
    simp only [List.append_eq, List.cons_append, List.nil_append]
    go_wp2_with fail
    refine (nAdd2 a b _ _ ha' hb' _ ?_ ?_).mono ?_
    · go_simp
    · go_simp
    rintro e w1 ⟨rfl, rfl⟩
    rw [H.out.1]
    go_wp2_with fail
    refine (nMul a b ha' hb' _).mono ?_
    rintro e w1 ⟨rfl, hb1⟩
    rw [H.out.2.1]
    go_wp2_with fail
    refine (nKnown _).mono ?_
    rintro e w2 ⟨rfl, hb2⟩
    go_wp2_with fail
    refine (nSub a b ha' hb' _).mono ?_
    rintro e w3 ⟨rfl, rfl⟩
    rw [H.out.2.2.1]
    go_wp2_with fail
    refine (nAdd2 a 0 _ _ ha' (by unfold U; omega) _ ?_ ?_).mono ?_
    · go_simp
    · go_simp
    rintro e w3 ⟨rfl, rfl⟩
    rw [H.out.2.2.2.1]
    go_wp2_with fail
    refine (nSub a a ha' ha' _).mono ?_
    rintro e w3 ⟨rfl, rfl⟩
    rw [H.out.2.2.2.2]
    go_wp2_with fail
    refine (nSub a b ha' hb' _).mono ?_
    rintro e w3 ⟨rfl, rfl⟩
    rw [H.out.2.2.1]
    go_wp2
    go_ret
    exact ⟨rfl, by repeat (first | exact Ext.refl _ | assumption | apply Ext.drew | apply Ext.alloc | (refine Ext.setCell ?_ (by simp <;> omega) _) | refine Ext.trans ?_ (by assumption))⟩

set_option maxHeartbeats 400000 in
theorem nEnds_onl (a b S P D : Int) (ha' : U a) (hb' : U b) (H : Hid (uadd a b = S ∧ umul a b = P ∧ usub a b = D ∧ uadd a 0 = a ∧ usub a a = 0)) (hD0 : 0 ≤ D) (hDle : D ≤ a) (T : Int) (hT : IntKind.u64.wrap (a + b) = T) (hTa : T < a) (hT0 : 0 ≤ T) (hS : S = 18446744073709551615) (hz : (b == 0) = false) (hb1 : 1 ≤ b) (E : Int) (hE : 18446744073709551615 / b = E) (hE1 : E ≤ 18446744073709551615) (hE0 : 0 ≤ E) (haE : E < a) (hP : P = 18446744073709551615) (hlt : a < b) (w : World) :
    Calls Try.prog 12 #[.int .u64 a, .int .u64 b] w fun e w' => e = .returned (.bool true) ∧ Ext w w' := by
    obtain ⟨ha1, ha2⟩ := id ha'
    obtain ⟨hb1, hb2⟩ := id hb'
    subst hS
    subst hP
    go_enter Try.func12, Try.ntmps12
    simp only [List.append_eq, List.cons_append, List.nil_append]
    go_wp2_with fail
    refine (nAdd2 a b _ _ ha' hb' _ ?_ ?_).mono ?_
    · go_simp
    · go_simp
    rintro e w1 ⟨rfl, rfl⟩
    rw [H.out.1]
    go_wp2_with fail
    refine (nMul a b ha' hb' _).mono ?_
    rintro e w1 ⟨rfl, hb1⟩
    rw [H.out.2.1]
    go_wp2_with fail
    refine (nKnown _).mono ?_
    rintro e w2 ⟨rfl, hb2⟩
    go_wp2_with fail
    refine (nSub a b ha' hb' _).mono ?_
    rintro e w3 ⟨rfl, rfl⟩
    rw [H.out.2.2.1]
    go_wp2_with fail
    refine (nAdd2 a 0 _ _ ha' (by unfold U; omega) _ ?_ ?_).mono ?_
    · go_simp
    · go_simp
    rintro e w3 ⟨rfl, rfl⟩
    rw [H.out.2.2.2.1]
    go_wp2_with fail
    refine (nSub a a ha' ha' _).mono ?_
    rintro e w3 ⟨rfl, rfl⟩
    rw [H.out.2.2.2.2]
    go_wp2
    go_ret
    exact ⟨rfl, by repeat (first | exact Ext.refl _ | assumption | apply Ext.drew | apply Ext.alloc | (refine Ext.setCell ?_ (by simp <;> omega) _) | refine Ext.trans ?_ (by assumption))⟩

set_option maxHeartbeats 400000 in
theorem nEnds_ong (a b S P D : Int) (ha' : U a) (hb' : U b) (H : Hid (uadd a b = S ∧ umul a b = P ∧ usub a b = D ∧ uadd a 0 = a ∧ usub a a = 0)) (hD0 : 0 ≤ D) (hDle : D ≤ a) (T : Int) (hT : IntKind.u64.wrap (a + b) = T) (hTa : T < a) (hT0 : 0 ≤ T) (hS : S = 18446744073709551615) (hz : (b == 0) = false) (hb1 : 1 ≤ b) (E : Int) (hE : 18446744073709551615 / b = E) (hE1 : E ≤ 18446744073709551615) (hE0 : 0 ≤ E) (haE : E < a) (hP : P = 18446744073709551615) (hlt : b ≤ a) (hDb : D + b = a) (w : World) :
    Calls Try.prog 12 #[.int .u64 a, .int .u64 b] w fun e w' => e = .returned (.bool true) ∧ Ext w w' := by
    obtain ⟨ha1, ha2⟩ := id ha'
    obtain ⟨hb1, hb2⟩ := id hb'
    subst hS
    subst hP
    go_enter Try.func12, Try.ntmps12
    simp only [List.append_eq, List.cons_append, List.nil_append]
    go_wp2_with fail
    refine (nAdd2 a b _ _ ha' hb' _ ?_ ?_).mono ?_
    · go_simp
    · go_simp
    rintro e w1 ⟨rfl, rfl⟩
    rw [H.out.1]
    go_wp2_with fail
    refine (nMul a b ha' hb' _).mono ?_
    rintro e w1 ⟨rfl, hb1⟩
    rw [H.out.2.1]
    go_wp2_with fail
    refine (nKnown _).mono ?_
    rintro e w2 ⟨rfl, hb2⟩
    go_wp2_with fail
    refine (nSub a b ha' hb' _).mono ?_
    rintro e w3 ⟨rfl, rfl⟩
    rw [H.out.2.2.1]
    go_wp2_with fail
    refine (nAdd2 a 0 _ _ ha' (by unfold U; omega) _ ?_ ?_).mono ?_
    · go_simp
    · go_simp
    rintro e w3 ⟨rfl, rfl⟩
    rw [H.out.2.2.2.1]
    go_wp2_with fail
    refine (nSub a a ha' ha' _).mono ?_
    rintro e w3 ⟨rfl, rfl⟩
    rw [H.out.2.2.2.2]
    go_wp2_with fail
    refine (nSub a b ha' hb' _).mono ?_
    rintro e w3 ⟨rfl, rfl⟩
    rw [H.out.2.2.1]
    go_wp2
    go_ret
    exact ⟨rfl, by repeat (first | exact Ext.refl _ | assumption | apply Ext.drew | apply Ext.alloc | (refine Ext.setCell ?_ (by simp <;> omega) _) | refine Ext.trans ?_ (by assumption))⟩

theorem nEnds (a b : Int) (ha : U a) (hb : U b) (w : World) :
    Calls Try.prog 12 #[.int .u64 a, .int .u64 b] w fun e w' => e = .returned (.bool true) ∧ Ext w w' := by
  have hs0 : uadd a 0 = a := by unfold uadd U at *; omega
  have hss : usub a a = 0 := by unfold usub; omega
  have hD := usub_U ha hb
  have hDle : usub a b ≤ a := by unfold usub U at *; omega
  have hab := mul_U ha hb
  by_cases h0 : b = 0
  · subst h0
    have hp : umul a 0 = 0 := by unfold umul mulH mulL; simp
    have hd0 : usub a 0 = a := by have := ha.1; unfold usub; omega
    exact nEnds_z a ha (Lib.hid ⟨hs0, hp, hd0, hss⟩) w
  · have hbp : 0 < b := by have := hb.1; omega
    have hz : (b == 0) = false := by rw [beq_eq_false_iff_ne]; exact h0
    have hE0 : 0 ≤ 18446744073709551615 / b := Int.ediv_nonneg (by omega) (by omega)
    have hE1 : 18446744073709551615 / b ≤ 18446744073709551615 := Int.ediv_le_self _ (by omega)
    have hiff : a ≤ 18446744073709551615 / b ↔ a * b ≤ 18446744073709551615 := Int.le_ediv_iff_mul_le hbp
    by_cases hw : a * b ≤ 18446744073709551615
    · have hp : umul a b = a * b := by unfold umul mulH mulL; rw [if_pos (by omega)]; omega
      by_cases ho : a + b ≤ 18446744073709551615
      · have hs : uadd a b = a + b := by unfold uadd; omega
        by_cases hl : a < b
        · exact nEnds_fwl a b _ _ _ ha hb (Lib.hid ⟨hs, hp, rfl, hs0, hss⟩) hD.1 hDle ho rfl hz (by omega) _ rfl hE1 hE0 (hiff.2 hw) rfl hab.1 hw hl w
        · exact nEnds_fwg a b _ _ _ ha hb (Lib.hid ⟨hs, hp, rfl, hs0, hss⟩) hD.1 hDle ho rfl hz (by omega) _ rfl hE1 hE0 (hiff.2 hw) rfl hab.1 hw (by omega) (by unfold usub; omega) w
      · have hs : uadd a b = 18446744073709551615 := by unfold uadd; omega
        have hT := wrap_u64_hi (a + b) (by omega) (by unfold U at *; omega)
        by_cases hl : a < b
        · exact nEnds_owl a b _ _ _ ha hb (Lib.hid ⟨hs, hp, rfl, hs0, hss⟩) hD.1 hDle _ rfl (by rw [hT]; have := hb.2; omega) (by rw [hT]; omega) rfl hz (by omega) _ rfl hE1 hE0 (hiff.2 hw) rfl hab.1 hw hl w
        · exact nEnds_owg a b _ _ _ ha hb (Lib.hid ⟨hs, hp, rfl, hs0, hss⟩) hD.1 hDle _ rfl (by rw [hT]; have := hb.2; omega) (by rw [hT]; omega) rfl hz (by omega) _ rfl hE1 hE0 (hiff.2 hw) rfl hab.1 hw (by omega) (by unfold usub; omega) w
    · have hp : umul a b = 18446744073709551615 := by unfold umul mulH mulL; rw [if_neg (by omega)]
      have hE : 18446744073709551615 / b < a := Int.not_le.1 (fun h => hw (hiff.1 h))
      by_cases ho : a + b ≤ 18446744073709551615
      · have hs : uadd a b = a + b := by unfold uadd; omega
        by_cases hl : a < b
        · exact nEnds_fnl a b _ _ _ ha hb (Lib.hid ⟨hs, hp, rfl, hs0, hss⟩) hD.1 hDle ho rfl hz (by omega) _ rfl hE1 hE0 hE rfl hl w
        · exact nEnds_fng a b _ _ _ ha hb (Lib.hid ⟨hs, hp, rfl, hs0, hss⟩) hD.1 hDle ho rfl hz (by omega) _ rfl hE1 hE0 hE rfl (by omega) (by unfold usub; omega) w
      · have hs : uadd a b = 18446744073709551615 := by unfold uadd; omega
        have hT := wrap_u64_hi (a + b) (by omega) (by unfold U at *; omega)
        by_cases hl : a < b
        · exact nEnds_onl a b _ _ _ ha hb (Lib.hid ⟨hs, hp, rfl, hs0, hss⟩) hD.1 hDle _ rfl (by rw [hT]; have := hb.2; omega) (by rw [hT]; omega) rfl hz (by omega) _ rfl hE1 hE0 hE rfl hl w
        · exact nEnds_ong a b _ _ _ ha hb (Lib.hid ⟨hs, hp, rfl, hs0, hss⟩) hD.1 hDle _ rfl (by rw [hT]; have := hb.2; omega) (by rw [hT]; omega) rfl hz (by omega) _ rfl hE1 hE0 hE rfl (by omega) (by unfold usub; omega) w

end Go.Proofs.Ytnicanbkocphlaa
