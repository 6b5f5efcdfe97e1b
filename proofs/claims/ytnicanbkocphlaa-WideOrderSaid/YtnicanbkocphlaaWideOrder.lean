/- WideOrder: the walk. -/
import Derived.Test.YtnicanbkocphlaaWideKnown
set_option linter.unusedVariables false
namespace Go.Proofs.Ytnicanbkocphlaa
open Go.RowKit

attribute [local go_sem] ite_min ite_max

theorem order_plain {a b c d : Int} (ha : U a) (hb : U b) (hc : U c) (hd : U d) :
    less (addH a b c d) (addL b d) a b = addR a b c d ∧ less (addH a b c d) (addL b d) c d = addR a b c d := by
  unfold U at *
  by_cases h1 : b + d ≤ 18446744073709551615
  · by_cases h2 : a + c ≤ 18446744073709551615
    · rw [addH_00 h1 h2, addL_0 h1, addR_00 h1 h2]; unfold less
      constructor <;> (split <;> simp <;> omega)
    · rw [addH_01 h1 (by omega), addL_0 h1, addR_01 h1 (by omega)]; unfold less
      constructor <;> (split <;> simp <;> omega)
  · by_cases h2 : a + c ≤ 18446744073709551614
    · rw [addH_10 (by omega) h2, addL_1 (by omega), addR_10 (by omega) h2]; unfold less
      constructor <;> (split <;> simp <;> omega)
    · rw [addH_11 (by omega) (by omega), addL_1 (by omega), addR_11 (by omega) (by omega)]; unfold less
      constructor <;> (split <;> simp <;> omega)

set_option maxHeartbeats 2000000 in
theorem wOrderWalk (a b c d : Int) (o1 o2 : Bool) (ha : U a) (hb : U b) (hc : U c) (hd : U d) (L1 : Hid (less a b c d = o1)) (L2 : Hid (less c d a b = o2))
    (h1 : (o1 && o2) = false) (h2 : (o1 || o2) = (a != c || b != d)) (w : World) :
    Calls Try.prog 10 #[.int .u64 a, .int .u64 b, .int .u64 c, .int .u64 d] w fun e w' => e = .returned (.bool true) ∧ Ext w w' := by
  have H := Lib.hid (order_plain ha hb hc hd)
  have hH := addH_U (al := b) (bl := d) ha hc
  have hL := addL_U hb hd
  go_enter Try.func10, Try.ntmps10
  go_wp2_with fail
  refine (wLess a b c d ha hb hc hd _).mono ?_
  rintro e w2 ⟨rfl, rfl⟩
  rw [L1.out]
  go_wp2_with fail
  refine (wLess c d a b hc hd ha hb _).mono ?_
  rintro e w2 ⟨rfl, rfl⟩
  rw [L2.out]
  go_wp2_with fail
  refine (wAdd a b c d ha hb hc hd _).mono ?_
  rintro e w2 ⟨rfl, rfl⟩
  go_wp2_with fail
  refine (wKnown _).mono ?_
  rintro e w7 ⟨rfl, hb7⟩
  have h3 : ((o1 || o2) == (a != c || b != d)) = true := by rw [h2]; simp
  clear L1 L2
  by_cases e1 : a = c
  · subst e1
    by_cases e2 : b = d
    · subst e2
      have g2 : (o1 || o2) = false := by rw [h2]; simp
      cases o1 <;> cases o2 <;> first
        | exact absurd h1 (by decide)
        | exact absurd g2 (by decide)
        | (go_wp2_with fail
           refine (wLess _ _ a b hH hL ha hb _).mono ?_
           rintro e w2 ⟨rfl, rfl⟩
           rw [H.out.1]
           go_wp2_with fail
           refine (wLess _ _ a b hH hL hc hd _).mono ?_
           rintro e w2 ⟨rfl, rfl⟩
           rw [H.out.2]
           go_wp2
           go_ret
           exact ⟨rfl, by repeat (first | exact Ext.refl _ | assumption | apply Ext.drew | apply Ext.alloc | (refine Ext.setCell ?_ (by simp <;> omega) _) | refine Ext.trans ?_ (by assumption))⟩)
    · have g2 : (o1 || o2) = true := by rw [h2]; simp [e2]
      have g3 : (b == d) = false := by rw [beq_eq_false_iff_ne]; exact e2
      have g4 : (b != d) = true := by rw [bne_iff_ne]; exact e2
      cases o1 <;> cases o2 <;> first
        | exact absurd h1 (by decide)
        | exact absurd g2 (by decide)
        | (go_wp2_with fail
           refine (wLess _ _ a b hH hL ha hb _).mono ?_
           rintro e w2 ⟨rfl, rfl⟩
           rw [H.out.1]
           go_wp2_with fail
           refine (wLess _ _ a d hH hL hc hd _).mono ?_
           rintro e w2 ⟨rfl, rfl⟩
           rw [H.out.2]
           go_wp2
           go_ret
           exact ⟨rfl, by repeat (first | exact Ext.refl _ | assumption | apply Ext.drew | apply Ext.alloc | (refine Ext.setCell ?_ (by simp <;> omega) _) | refine Ext.trans ?_ (by assumption))⟩)
  · have g2 : (o1 || o2) = true := by rw [h2]; simp [e1]
    have g3 : (a == c) = false := by rw [beq_eq_false_iff_ne]; exact e1
    have g4 : (a != c) = true := by rw [bne_iff_ne]; exact e1
    cases o1 <;> cases o2 <;> first
      | exact absurd h1 (by decide)
      | exact absurd g2 (by decide)
      | (go_wp2_with fail
         refine (wLess _ _ a b hH hL ha hb _).mono ?_
         rintro e w2 ⟨rfl, rfl⟩
         rw [H.out.1]
         go_wp2_with fail
         refine (wLess _ _ c d hH hL hc hd _).mono ?_
         rintro e w2 ⟨rfl, rfl⟩
         rw [H.out.2]
         go_wp2
         go_ret
         exact ⟨rfl, by repeat (first | exact Ext.refl _ | assumption | apply Ext.drew | apply Ext.alloc | (refine Ext.setCell ?_ (by simp <;> omega) _) | refine Ext.trans ?_ (by assumption))⟩)

theorem wOrder (a b c d : Int) (ha : U a) (hb : U b) (hc : U c) (hd : U d) (w : World) :
    Calls Try.prog 10 #[.int .u64 a, .int .u64 b, .int .u64 c, .int .u64 d] w fun e w' => e = .returned (.bool true) ∧ Ext w w' := by
  refine wOrderWalk a b c d _ _ ha hb hc hd (Lib.hid rfl) (Lib.hid rfl) ?_ ?_ w
  · unfold less
    by_cases h : a = c
    · subst h; simp; omega
    · have h' : ¬ c = a := fun e => h e.symm
      simp [h, h']; omega
  · unfold less
    by_cases h : a = c
    · subst h
      by_cases h2 : b = d
      · subst h2; simp
      · have : b < d ∨ d < b := by omega
        rcases this with h3 | h3 <;> simp [h2, h3]
    · have h' : ¬ c = a := fun e => h e.symm
      have : a < c ∨ c < a := by omega
      rcases this with h3 | h3 <;> simp [h, h', h3]

end Go.Proofs.Ytnicanbkocphlaa
