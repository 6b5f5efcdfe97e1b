/- NumFits: the walk. -/
import Derived.Test.YtnicanbkocphlaaNumKnown
set_option linter.unusedVariables false
namespace Go.Proofs.Ytnicanbkocphlaa
open Go.RowKit

attribute [local go_sem] ite_min ite_max

set_option maxHeartbeats 400000 in
theorem nFits_y (a b c d : Int) (ha : U a) (hb : U b) (hc : U c) (hd : U d) (hn : a + b ≤ c) (hac : a ≤ c)
    (H : Hid (fits a b c = true ∧ fits b a c = true ∧ fits (min a d) b c = true ∧ fits a 0 a = true ∧ fits a (usub c a) c = true)) (w : World) :
    Calls Try.prog 15 #[.int .u64 a, .int .u64 b, .int .u64 c, .int .u64 d] w fun e w' => e = .returned (.bool true) ∧ Ext w w' := by
    obtain ⟨ha1, ha2⟩ := id ha
    obtain ⟨hb1, hb2'⟩ := id hb
    obtain ⟨hc1, hc2⟩ := id hc
    go_enter Try.func15, Try.ntmps15
    go_wp2_with fail
    refine (nFits a b c ha hb hc _).mono ?_
    rintro e1 w1 ⟨rfl, rfl⟩
    rw [H.out.1]
    go_wp2_with fail
    refine (nKnown _).mono ?_
    rintro e2 w2 ⟨rfl, hb2⟩
    go_wp2_with fail
    refine (nFits b a c hb ha hc _).mono ?_
    rintro e3 w3 ⟨rfl, rfl⟩
    rw [H.out.2.1]
    go_wp2_with fail
    refine (nFits (min a d) b c (min_U ha hd) hb hc _).mono ?_
    rintro e3 w3 ⟨rfl, rfl⟩
    rw [H.out.2.2.1]
    go_wp2_with fail
    refine (nFits a 0 a ha (by unfold U; omega) ha _).mono ?_
    rintro e3 w3 ⟨rfl, rfl⟩
    rw [H.out.2.2.2.1]
    go_wp2_with fail
    refine (nSub c a hc ha _).mono ?_
    rintro e3 w3 ⟨rfl, rfl⟩
    go_wp2_with fail
    refine (nFits a (usub c a) c ha (usub_U hc ha) hc _).mono ?_
    rintro e3 w3 ⟨rfl, rfl⟩
    rw [H.out.2.2.2.2]
    go_wp2
    go_ret
    first
      | exact ⟨rfl, by repeat (first | exact Ext.refl _ | assumption | apply Ext.drew | apply Ext.alloc | (refine Ext.setCell ?_ (by simp <;> omega) _) | refine Ext.trans ?_ (by assumption))⟩
      | exact ⟨ret_bool (by simp <;> omega), by repeat (first | exact Ext.refl _ | assumption | apply Ext.drew | apply Ext.alloc | (refine Ext.setCell ?_ (by simp <;> omega) _) | refine Ext.trans ?_ (by assumption))⟩

set_option maxHeartbeats 400000 in
theorem nFits_n (a b c d : Int) (ha : U a) (hb : U b) (hc : U c) (hd : U d) (hn : c < a + b) (hno : a + b ≤ 18446744073709551615) (hac : a ≤ c)
    (H : Hid (fits a b c = false ∧ fits b a c = false ∧ fits (min a d) b c = fits (min a d) b c ∧ fits a 0 a = true ∧ fits a (usub c a) c = true)) (w : World) :
    Calls Try.prog 15 #[.int .u64 a, .int .u64 b, .int .u64 c, .int .u64 d] w fun e w' => e = .returned (.bool true) ∧ Ext w w' := by
    obtain ⟨ha1, ha2⟩ := id ha
    obtain ⟨hb1, hb2'⟩ := id hb
    obtain ⟨hc1, hc2⟩ := id hc
    go_enter Try.func15, Try.ntmps15
    go_wp2_with fail
    refine (nFits a b c ha hb hc _).mono ?_
    rintro e1 w1 ⟨rfl, rfl⟩
    rw [H.out.1]
    go_wp2_with fail
    refine (nKnown _).mono ?_
    rintro e2 w2 ⟨rfl, hb2⟩
    go_wp2_with fail
    refine (nFits b a c hb ha hc _).mono ?_
    rintro e3 w3 ⟨rfl, rfl⟩
    rw [H.out.2.1]
    go_wp2_with fail
    refine (nFits a 0 a ha (by unfold U; omega) ha _).mono ?_
    rintro e3 w3 ⟨rfl, rfl⟩
    rw [H.out.2.2.2.1]
    go_wp2_with fail
    refine (nSub c a hc ha _).mono ?_
    rintro e3 w3 ⟨rfl, rfl⟩
    go_wp2_with fail
    refine (nFits a (usub c a) c ha (usub_U hc ha) hc _).mono ?_
    rintro e3 w3 ⟨rfl, rfl⟩
    rw [H.out.2.2.2.2]
    go_wp2
    go_ret
    first
      | exact ⟨rfl, by repeat (first | exact Ext.refl _ | assumption | apply Ext.drew | apply Ext.alloc | (refine Ext.setCell ?_ (by simp <;> omega) _) | refine Ext.trans ?_ (by assumption))⟩
      | exact ⟨ret_bool (by simp <;> omega), by repeat (first | exact Ext.refl _ | assumption | apply Ext.drew | apply Ext.alloc | (refine Ext.setCell ?_ (by simp <;> omega) _) | refine Ext.trans ?_ (by assumption))⟩

set_option maxHeartbeats 400000 in
theorem nFits_m (a b c d : Int) (ha : U a) (hb : U b) (hc : U c) (hd : U d) (hn : c < a + b) (hno : a + b ≤ 18446744073709551615) (hac : c < a)
    (H : Hid (fits a b c = false ∧ fits b a c = false ∧ fits (min a d) b c = fits (min a d) b c ∧ fits a 0 a = true ∧ fits a (usub c a) c = false)) (w : World) :
    Calls Try.prog 15 #[.int .u64 a, .int .u64 b, .int .u64 c, .int .u64 d] w fun e w' => e = .returned (.bool true) ∧ Ext w w' := by
    obtain ⟨ha1, ha2⟩ := id ha
    obtain ⟨hb1, hb2'⟩ := id hb
    obtain ⟨hc1, hc2⟩ := id hc
    go_enter Try.func15, Try.ntmps15
    go_wp2_with fail
    refine (nFits a b c ha hb hc _).mono ?_
    rintro e1 w1 ⟨rfl, rfl⟩
    rw [H.out.1]
    go_wp2_with fail
    refine (nKnown _).mono ?_
    rintro e2 w2 ⟨rfl, hb2⟩
    go_wp2_with fail
    refine (nFits b a c hb ha hc _).mono ?_
    rintro e3 w3 ⟨rfl, rfl⟩
    rw [H.out.2.1]
    go_wp2_with fail
    refine (nFits a 0 a ha (by unfold U; omega) ha _).mono ?_
    rintro e3 w3 ⟨rfl, rfl⟩
    rw [H.out.2.2.2.1]
    go_wp2_with fail
    refine (nSub c a hc ha _).mono ?_
    rintro e3 w3 ⟨rfl, rfl⟩
    go_wp2_with fail
    refine (nFits a (usub c a) c ha (usub_U hc ha) hc _).mono ?_
    rintro e3 w3 ⟨rfl, rfl⟩
    rw [H.out.2.2.2.2]
    go_wp2
    go_ret
    first
      | exact ⟨rfl, by repeat (first | exact Ext.refl _ | assumption | apply Ext.drew | apply Ext.alloc | (refine Ext.setCell ?_ (by simp <;> omega) _) | refine Ext.trans ?_ (by assumption))⟩
      | exact ⟨ret_bool (by simp <;> omega), by repeat (first | exact Ext.refl _ | assumption | apply Ext.drew | apply Ext.alloc | (refine Ext.setCell ?_ (by simp <;> omega) _) | refine Ext.trans ?_ (by assumption))⟩

set_option maxHeartbeats 400000 in
theorem nFits_o (a b c d : Int) (ha : U a) (hb : U b) (hc : U c) (hd : U d) (T : Int) (hT : IntKind.u64.wrap (a + b) = T) (hTa : T < a) (hac : a ≤ c)
    (H : Hid (fits a b c = false ∧ fits b a c = false ∧ fits (min a d) b c = fits (min a d) b c ∧ fits a 0 a = true ∧ fits a (usub c a) c = true)) (w : World) :
    Calls Try.prog 15 #[.int .u64 a, .int .u64 b, .int .u64 c, .int .u64 d] w fun e w' => e = .returned (.bool true) ∧ Ext w w' := by
    obtain ⟨ha1, ha2⟩ := id ha
    obtain ⟨hb1, hb2'⟩ := id hb
    obtain ⟨hc1, hc2⟩ := id hc
    go_enter Try.func15, Try.ntmps15
    go_wp2_with fail
    refine (nFits a b c ha hb hc _).mono ?_
    rintro e1 w1 ⟨rfl, rfl⟩
    rw [H.out.1]
    go_wp2_with fail
    refine (nKnown _).mono ?_
    rintro e2 w2 ⟨rfl, hb2⟩
    go_wp2_with fail
    refine (nFits b a c hb ha hc _).mono ?_
    rintro e3 w3 ⟨rfl, rfl⟩
    rw [H.out.2.1]
    go_wp2_with fail
    refine (nFits a 0 a ha (by unfold U; omega) ha _).mono ?_
    rintro e3 w3 ⟨rfl, rfl⟩
    rw [H.out.2.2.2.1]
    go_wp2_with fail
    refine (nSub c a hc ha _).mono ?_
    rintro e3 w3 ⟨rfl, rfl⟩
    go_wp2_with fail
    refine (nFits a (usub c a) c ha (usub_U hc ha) hc _).mono ?_
    rintro e3 w3 ⟨rfl, rfl⟩
    rw [H.out.2.2.2.2]
    go_wp2
    go_ret
    first
      | exact ⟨rfl, by repeat (first | exact Ext.refl _ | assumption | apply Ext.drew | apply Ext.alloc | (refine Ext.setCell ?_ (by simp <;> omega) _) | refine Ext.trans ?_ (by assumption))⟩
      | exact ⟨ret_bool (by simp <;> omega), by repeat (first | exact Ext.refl _ | assumption | apply Ext.drew | apply Ext.alloc | (refine Ext.setCell ?_ (by simp <;> omega) _) | refine Ext.trans ?_ (by assumption))⟩

set_option maxHeartbeats 400000 in
theorem nFits_p (a b c d : Int) (ha : U a) (hb : U b) (hc : U c) (hd : U d) (T : Int) (hT : IntKind.u64.wrap (a + b) = T) (hTa : T < a) (hac : c < a)
    (H : Hid (fits a b c = false ∧ fits b a c = false ∧ fits (min a d) b c = fits (min a d) b c ∧ fits a 0 a = true ∧ fits a (usub c a) c = false)) (w : World) :
    Calls Try.prog 15 #[.int .u64 a, .int .u64 b, .int .u64 c, .int .u64 d] w fun e w' => e = .returned (.bool true) ∧ Ext w w' := by
    obtain ⟨ha1, ha2⟩ := id ha
    obtain ⟨hb1, hb2'⟩ := id hb
    obtain ⟨hc1, hc2⟩ := id hc
    go_enter Try.func15, Try.ntmps15
    go_wp2_with fail
    refine (nFits a b c ha hb hc _).mono ?_
    rintro e1 w1 ⟨rfl, rfl⟩
    rw [H.out.1]
    go_wp2_with fail
    refine (nKnown _).mono ?_
    rintro e2 w2 ⟨rfl, hb2⟩
    go_wp2_with fail
    refine (nFits b a c hb ha hc _).mono ?_
    rintro e3 w3 ⟨rfl, rfl⟩
    rw [H.out.2.1]
    go_wp2_with fail
    refine (nFits a 0 a ha (by unfold U; omega) ha _).mono ?_
    rintro e3 w3 ⟨rfl, rfl⟩
    rw [H.out.2.2.2.1]
    go_wp2_with fail
    refine (nSub c a hc ha _).mono ?_
    rintro e3 w3 ⟨rfl, rfl⟩
    go_wp2_with fail
    refine (nFits a (usub c a) c ha (usub_U hc ha) hc _).mono ?_
    rintro e3 w3 ⟨rfl, rfl⟩
    rw [H.out.2.2.2.2]
    go_wp2
    go_ret
    first
      | exact ⟨rfl, by repeat (first | exact Ext.refl _ | assumption | apply Ext.drew | apply Ext.alloc | (refine Ext.setCell ?_ (by simp <;> omega) _) | refine Ext.trans ?_ (by assumption))⟩
      | exact ⟨ret_bool (by simp <;> omega), by repeat (first | exact Ext.refl _ | assumption | apply Ext.drew | apply Ext.alloc | (refine Ext.setCell ?_ (by simp <;> omega) _) | refine Ext.trans ?_ (by assumption))⟩

theorem nFitsLaw (a b c d : Int) (ha : U a) (hb : U b) (hc : U c) (hd : U d) (w : World) :
    Calls Try.prog 15 #[.int .u64 a, .int .u64 b, .int .u64 c, .int .u64 d] w fun e w' => e = .returned (.bool true) ∧ Ext w w' := by
  have e4 : fits a 0 a = true := by unfold fits; simp
  have hca : fits a (usub c a) c = decide (a ≤ c) := by unfold fits usub; exact decide_eq_decide.2 (by omega)
  by_cases hn : a + b ≤ c
  · have hac : a ≤ c := by have := hb.1; omega
    exact nFits_y a b c d ha hb hc hd hn hac (Lib.hid ⟨decide_eq_true hn, decide_eq_true (by omega), decide_eq_true (by omega), e4, by rw [hca]; exact decide_eq_true hac⟩) w
  · have e1 : fits a b c = false := decide_eq_false hn
    have e2 : fits b a c = false := decide_eq_false (by omega)
    by_cases ho : a + b ≤ 18446744073709551615
    · by_cases hac : a ≤ c
      · exact nFits_n a b c d ha hb hc hd (by omega) ho hac (Lib.hid ⟨e1, e2, rfl, e4, by rw [hca]; exact decide_eq_true hac⟩) w
      · exact nFits_m a b c d ha hb hc hd (by omega) ho (by omega) (Lib.hid ⟨e1, e2, rfl, e4, by rw [hca]; exact decide_eq_false hac⟩) w
    · have hT := wrap_u64_hi (a + b) (by omega) (by unfold U at *; omega)
      by_cases hac : a ≤ c
      · exact nFits_o a b c d ha hb hc hd _ rfl (by rw [hT]; have := hb.2; omega) hac (Lib.hid ⟨e1, e2, rfl, e4, by rw [hca]; exact decide_eq_true hac⟩) w
      · exact nFits_p a b c d ha hb hc hd _ rfl (by rw [hT]; have := hb.2; omega) (by omega) (Lib.hid ⟨e1, e2, rfl, e4, by rw [hca]; exact decide_eq_false hac⟩) w

end Go.Proofs.Ytnicanbkocphlaa
