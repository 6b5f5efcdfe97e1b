/- WideBack: the walk. -/
import Derived.Test.YtnicanbkocphlaaWideKnown
set_option linter.unusedVariables false
namespace Go.Proofs.Ytnicanbkocphlaa
open Go.RowKit

attribute [local go_sem] ite_min ite_max

theorem back_plain {h l d : Int} (hh : U h) (hl : U l) (hd : U d) (hn : h < d) :
    addH (mulH (divQ h l d) d) (mulL (divQ h l d) d) 0 (divR h l d) = h ∧ addL (mulL (divQ h l d) d) (divR h l d) = l ∧ addR (mulH (divQ h l d) d) (mulL (divQ h l d) d) 0 (divR h l d) = false := by
  have e1 := div_split (l := l) hn
  have e2 := mul_split (divQ h l d) d
  have u1 := mulL_U (divQ_U hh hl hd) hd
  have u2 := mulH_U (divQ_U hh hl hd) hd
  have u3 := divR_U hh hl hd
  generalize mulH (divQ h l d) d = X at *
  generalize mulL (divQ h l d) d = Y at *
  generalize divR h l d = R at *
  generalize divQ h l d * d = P at *
  unfold U at *
  by_cases hc : Y + R ≤ 18446744073709551615
  · rw [addH_00 hc (by omega), addL_0 hc, addR_00 hc (by omega)]
    refine ⟨?_, ?_, rfl⟩ <;> omega
  · rw [addH_10 (by omega) (by omega), addL_1 (by omega), addR_10 (by omega) (by omega)]
    refine ⟨?_, ?_, rfl⟩ <;> omega

set_option maxHeartbeats 1000000 in
theorem wBack (h l d : Int) (hh : U h) (hl : U l) (hd : U d) (w : World) :
    Calls Try.prog 8 #[.int .u64 h, .int .u64 l, .int .u64 d] w fun e w' => e = .returned (.bool true) ∧ Ext w w' := by
  by_cases hn : h < d
  · have hok : divOk h d = true := decide_eq_true hn
    have hb := back_plain hh hl hd hn
    have hq := divQ_U hh hl hd
    have hr := divR_bound (l := l) hh.1 hn
    have hru := divR_U hh hl hd
    obtain ⟨q, eq⟩ : ∃ q, divQ h l d = q := ⟨_, rfl⟩
    obtain ⟨r, er⟩ : ∃ r, divR h l d = r := ⟨_, rfl⟩
    rw [eq] at hq hb
    rw [er] at hr hru hb
    have hx := mulH_U hq hd
    have hy := mulL_U hq hd
    obtain ⟨x, ex⟩ : ∃ x, mulH q d = x := ⟨_, rfl⟩
    obtain ⟨y, ey⟩ : ∃ y, mulL q d = y := ⟨_, rfl⟩
    rw [ex] at hx hb
    rw [ey] at hy hb
    have H := Lib.hid (And.intro eq (And.intro er (And.intro hok (And.intro ex (And.intro ey hb)))))
    clear eq er ex ey hok hb
    have hrd := hr.2
    have hr0 := hr.1
    clear hr
    go_enter Try.func8, Try.ntmps8
    go_wp2_with fail
    refine (wDiv h l d hh hl hd _).mono ?_
    rintro e w2 ⟨rfl, rfl⟩
    rw [H.out.1, H.out.2.1, H.out.2.2.1]
    go_wp2_with fail
    refine (wMul q d hq hd _).mono ?_
    rintro e w1 ⟨rfl, hb1⟩
    rw [H.out.2.2.2.1, H.out.2.2.2.2.1]
    go_wp2_with fail
    refine (wAdd x y 0 r hx hy (by unfold U; omega) hru _).mono ?_
    rintro e w2 ⟨rfl, rfl⟩
    rw [H.out.2.2.2.2.2.1, H.out.2.2.2.2.2.2.1, H.out.2.2.2.2.2.2.2]
    go_wp2_with fail
    refine (wKnown _).mono ?_
    rintro e w2 ⟨rfl, hb2⟩
    go_wp2_with fail
    go_ret
    exact ⟨rfl, by repeat (first | exact Ext.refl _ | assumption | apply Ext.drew | apply Ext.alloc | (refine Ext.setCell ?_ (by simp <;> omega) _) | refine Ext.trans ?_ (by assumption))⟩
  · have hok : divOk h d = false := decide_eq_false hn
    have e1 : divQ h l d = 0 := if_neg hn
    have e2 : divR h l d = 0 := if_neg hn
    have H := Lib.hid (And.intro e1 (And.intro e2 hok))
    clear e1 e2 hok
    go_enter Try.func8, Try.ntmps8
    go_wp2_with fail
    refine (wDiv h l d hh hl hd _).mono ?_
    rintro e w2 ⟨rfl, rfl⟩
    rw [H.out.1, H.out.2.1, H.out.2.2]
    go_wp2_with fail
    refine (wKnown _).mono ?_
    rintro e w2 ⟨rfl, hb2⟩
    go_wp2_with fail
    go_ret
    exact ⟨rfl, by repeat (first | exact Ext.refl _ | assumption | apply Ext.drew | apply Ext.alloc | (refine Ext.setCell ?_ (by simp <;> omega) _) | refine Ext.trans ?_ (by assumption))⟩

end Go.Proofs.Ytnicanbkocphlaa
