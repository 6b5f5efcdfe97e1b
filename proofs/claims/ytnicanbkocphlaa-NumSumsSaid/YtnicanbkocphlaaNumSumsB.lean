/- NumSums: the walk, for every slice. -/
import Derived.Test.YtnicanbkocphlaaNumSums
set_option linter.unusedVariables false
namespace Go.Proofs.Ytnicanbkocphlaa
open Go.RowKit

attribute [local go_sem] ite_min ite_max

set_option maxHeartbeats 1000000 in
theorem nSumsE (l : Option Addr) (cap : Nat) (at_ : Int) (hat : 0 ≤ at_ ∧ at_ ≤ 255) (hn : l = none → cap = 0) (w : World) :
    Calls Try.prog 5 #[.slice l 0 cap, .int .u8 at_] w fun e w' => e = .returned (.bool true) ∧ Ext w w' := by
  obtain ⟨ht1, ht2⟩ := hat
  have hc0 : (0 : Int) ≤ (cap : Int) := by omega
  go_enter Try.func5, Try.ntmps5
  go_wp2
  refine wp_loop_rounds 1 ?_
  rw [rounds_succ]
  go_wp2_with fail
  refine (nAddE _ _ _).mono ?_
  rintro e w1 ⟨rfl, rfl⟩
  go_wp2
  refine wp_loop_rounds 1 ?_
  rw [rounds_succ]
  rcases l with _ | x
  · obtain rfl : cap = 0 := hn rfl
    go_wp2
    go_region_held3 (fun _ => True) (trivial)
      (first
        | (go_at_call 20; refine (nKnown _).mono ?_; rintro e w1 ⟨rfl, hb⟩)
        | (go_at_call 21; with_reducible refine (nAddE _ _ _).mono ?_; rintro e w2 ⟨rfl, rfl⟩)
        | (go_at_call 21; refine (nAdd2 0 0 _ _ (by unfold U; omega) (by unfold U; omega) _ ?_ ?_).mono ?_; (go_simp); (go_simp); rw [show uadd 0 0 = 0 from by decide]; rintro e w2 ⟨rfl, rfl⟩))
    go_wp2
    go_ret
    exact ⟨rfl, by repeat (first | exact Ext.refl _ | assumption | apply Ext.drew | apply Ext.alloc | (refine Ext.setCell ?_ (by simp <;> omega) _) | refine Ext.trans ?_ (by assumption))⟩
  · clear hn
    go_wp2
    go_region_held3 (fun _ => True) (trivial)
      (first
        | (go_at_call 20; refine (nKnown _).mono ?_; rintro e w1 ⟨rfl, hb⟩)
        | (go_at_call 21; with_reducible refine (nAddE _ _ _).mono ?_; rintro e w2 ⟨rfl, rfl⟩)
        | (go_at_call 21; refine (nAdd2 0 0 _ _ (by unfold U; omega) (by unfold U; omega) _ ?_ ?_).mono ?_; (go_simp); (go_simp); rw [show uadd 0 0 = 0 from by decide]; rintro e w2 ⟨rfl, rfl⟩))
    all_goals go_wp2
    all_goals go_ret
    all_goals exact ⟨rfl, by repeat (first | exact Ext.refl _ | assumption | apply Ext.drew | apply Ext.alloc | (refine Ext.setCell ?_ (by simp <;> omega) _) | refine Ext.trans ?_ (by assumption))⟩

theorem nSumsLaw (l : Option Addr) (len cap : Nat) (zs : List Int) (at_ : Int) (hat : 0 ≤ at_ ∧ at_ ≤ 255) (w : World) (hr : IsRow .u64 w l len cap zs) :
    Calls Try.prog 5 #[.slice l len cap, .int .u8 at_] w fun e w' => e = .returned (.bool true) ∧ Ext w w' := by
  by_cases h80 : len ≤ 80
  · by_cases h0 : len = 0
    · subst h0
      exact nSumsE l cap at_ hat (by rcases hr with ⟨_, _, h, _⟩ | ⟨x, h, _⟩; exact fun _ => h; intro h'; rw [h'] at h; cases h) w
    · rcases hr with ⟨rfl, rfl, rfl, rfl⟩ | ⟨x, rfl, hl, hm, hz, hc, hw⟩
      · exact absurd rfl h0
      · obtain ⟨b, off, rfl, hc'⟩ := ints_at hc (by omega)
        have hlen : (zs.take len).length = len := by simp; omega
        have hg : ∀ i, i < len → (zs.take len).getD i 0 = zs.getD i 0 := fun i hi => take_getD (by rw [hlen]; exact hi)
        refine nSumsA b off cap len zs at_ (zs.take len) rfl hlen h80 (by omega) hl hm hat w ?_ ?_
        · intro i hi
          rw [hlen] at hi
          rw [hg i hi]
          have hi' : i < zs.length := by omega
          exact bounds_u64 (hw (zs.getD i 0) (by simp [List.getD, hi']))
        · intro i hi
          rw [hg i hi]
          exact hc' i (by omega)
  · have hm : len ≤ 9223372036854775807 := by
      rcases hr with ⟨_, h, _, _⟩ | ⟨_, _, h1, h2, _⟩
      · omega
      · unfold maxLen at h2; omega
    have hl' : (80 : Int) < (len : Int) := by omega
    go_enter Try.func5, Try.ntmps5
    go_wp2_with fail
    refine (nKnown _).mono ?_
    rintro e1 w1 ⟨rfl, hb1⟩
    go_wp2
    go_ret
    exact ⟨rfl, by repeat (first | exact Ext.refl _ | assumption | apply Ext.drew | apply Ext.alloc | (refine Ext.setCell ?_ (by simp <;> omega) _) | refine Ext.trans ?_ (by assumption))⟩

end Go.Proofs.Ytnicanbkocphlaa
