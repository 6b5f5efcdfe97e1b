/- NumSums: the walk. -/
import Derived.Test.YtnicanbkocphlaaNumAsks
import Derived.OwnWalk
import Derived.Laws.AppendOwn
import Derived.Laws.OwnMore
import Derived.RegionTactic
import Derived.Deep.RegionHeld3
set_option linter.unusedVariables false
namespace Go.Proofs.Ytnicanbkocphlaa
open Go.RowKit

attribute [local go_sem] ite_min ite_max

theorem infoU : (Try.prog.info? 22).map (fun i => (i.zero, i.size, i.bytes)) = some (some (.int .u64 0), 1, 8) := by kernel_rfl

theorem rev_take_succ (xs : List Int) (k : Nat) (h : k < xs.length) :
    (xs.map (Value.int .u64)).reverse.take (k + 1) = (xs.map (Value.int .u64)).reverse.take k ++ [Value.int .u64 (xs.getD (xs.length - 1 - k) 0)] := by
  rw [List.take_succ_eq_append_getElem (by simpa using h), List.getElem_reverse]
  simp [List.getD, show xs.length - 1 - k < xs.length from by omega]

theorem sumsRel {k len : Nat} {w w1 : World} {v' : Value} {xs : List Int} (h : k < len) (hlen : xs.length = len)
    (hown : w1.ownsRow w.heap.size 22 1 v' (k + 1) ((xs.map (Value.int .u64)).reverse.take k ++ [.int .u64 (xs.getD (len - 1 - k) 0)])) :
    w1.ownsRow w.heap.size 22 1 v' (k + 1) ((xs.map (Value.int .u64)).reverse.take (k + 1)) := by
  rw [rev_take_succ xs k (by omega), hlen]
  exact hown

theorem elem_le_sum (l : List Int) (k : Nat) (hk : k < l.length) (h : ∀ i, i < l.length → U (l.getD i 0)) : l.getD k 0 ≤ l.sum := by
  have h1 := sum_take_le l (k + 1) h
  have h2 := sum_take_le (l.take k) 0 (fun i hi => by
    have h' : i < k ∧ i < l.length := by simp at hi; omega
    rw [take_getD hi]; exact h i h'.2)
  rw [sum_take_succ l k hk] at h1
  simp at h2
  omega

theorem elem_le_usum (l : List Int) (k : Nat) (hk : k < l.length) (h : ∀ i, i < l.length → U (l.getD i 0)) : l.getD k 0 ≤ usum l := by
  have h1 := elem_le_sum l k hk h
  have h2 := (h k hk).hi
  unfold usum; omega

theorem usum_rev (l : List Int) : usum l.reverse = usum l := by unfold usum; rw [List.sum_reverse]

theorem usum_cut (l : List Int) (K : Nat) (h : ∀ i, i < l.length → U (l.getD i 0)) : uadd (usum (l.take K)) (usum (l.drop K)) = usum l := by
  have e : l.sum = (l.take K).sum + (l.drop K).sum := by rw [← List.sum_append, List.take_append_drop]
  have h1 := sum_take_le (l.take K) 0 (fun i hi => by
    have h' : i < K ∧ i < l.length := by simp at hi; omega
    rw [take_getD hi]; exact h i h'.2)
  have h2 := sum_take_le (l.drop K) 0 (fun i hi => by
    have h' : K + i < l.length := by simp at hi; omega
    have := h (K + i) h'
    simpa [List.getD] using this)
  simp at h1 h2
  unfold usum uadd
  omega

theorem own_cells {w : World} {base n : Nat} {e : TypeId} {v : Value} {xs : List Value} (h : w.ownsRow base e 1 v n xs) (hn : 0 < n) :
    ∃ g cp, v = .slice (some ⟨g, 0, none⟩) n cp ∧ n ≤ cp ∧ cp ≤ maxLen ∧ ∀ i, i < n → w.cell? ⟨g, i, none⟩ = some (xs.getD i undef) := by
  obtain ⟨hl, h2 | ⟨g, cp, cur, hv, hg, hh, hnc, hcm, hsz, htake⟩⟩ := h
  · omega
  · subst hv
    refine ⟨g, cp, rfl, hnc, hcm, fun i hi => ?_⟩
    have h' : w.ownsRow base e 1 (.slice (some ⟨g, 0, none⟩) n cp) n xs := ⟨hl, .inr ⟨g, cp, cur, rfl, hg, hh, hnc, hcm, hsz, htake⟩⟩
    have := h'.cellAt i (by omega)
    rw [this]
    have hi' : i < xs.length := by omega
    simp [List.getD, hi']

theorem rev_U {xs : List Int} (h : ∀ i, i < xs.length → U (xs.getD i 0)) : ∀ i, i < xs.reverse.length → U (xs.reverse.getD i 0) := by
  intro i hi
  have hi' : i < xs.length := by simpa using hi
  have h1 := h (xs.length - 1 - i) (by omega)
  have e : xs.reverse.getD i 0 = xs.getD (xs.length - 1 - i) 0 := by
    simp [List.getD, hi', show xs.length - 1 - i < xs.length from by omega]
  rw [e]; exact h1

theorem rev_get {xs : List Int} {i len : Nat} (h : i < xs.length) (hl : xs.length = len) : ((xs.map (Value.int .u64)).reverse.take len).getD i undef = .int .u64 (xs.reverse.getD i 0) := by
  subst hl
  simp [List.getD, h]

theorem ext_grown {w wr w1 : World} {e : TypeId} {size n : Nat} {v : Value} {xs : List Value} {o : Obj} (h : Ext w wr) (hown : wr.ownsRow w.heap.size e size v n xs) (hg : (wr.alloc o).grownBy w1 v.ownBlock) : Ext w w1 := by
  refine Below.grown (h.alloc o) hg (h.alloc o).size ?_
  intro k hk
  obtain ⟨_, h2 | ⟨g, cap, cur, hv, hge, _⟩⟩ := hown
  · rw [h2.1] at hk; cases hk
  · rw [hv] at hk; simp [Value.ownBlock] at hk; omega

set_option maxHeartbeats 1000000 in
theorem nSumsA (b off cap len : Nat) (zs : List Int) (at_ : Int) (xs : List Int) (hxs : xs = zs.take len) (hlen : xs.length = len) (h80 : len ≤ 80) (hpos : 0 < len) (hcap : len ≤ cap) (hcm : cap ≤ maxLen) (hat : 0 ≤ at_ ∧ at_ ≤ 255) (w : World)
    (hU : ∀ i, i < xs.length → U (xs.getD i 0)) (hc : ∀ i, i < len → w.cell? ⟨b, off + i, none⟩ = some (.int .u64 (xs.getD i 0))) :
    Calls Try.prog 5 #[.slice (some ⟨b, off, none⟩) len cap, .int .u8 at_] w fun e w' => e = .returned (.bool true) ∧ Ext w w' := by
  obtain ⟨i0, hi, hz0, hz1, hz2⟩ := info_parts infoU
  have hC := Lib.hid hc; clear hc
  have hX := Lib.hid hU; clear hU
  have hLen := Lib.hid hlen
  clear hxs hlen
  obtain ⟨ht1, ht2⟩ := hat
  unfold maxLen at hcm
  have hl' : ¬ (80 : Int) < (len : Int) := by omega
  go_enter Try.func5, Try.ntmps5
  go_wp2
  go_loopw [5, 6] (fun v i wr => ∃ k : Nat, k ≤ len ∧ i = .int .i64 ((len : Int) - 1 - (k : Int)) ∧ wr.ownsRow w.heap.size 22 1 v k ((xs.map (Value.int .u64)).reverse.take k) ∧ Ext w wr) (fun _ i _ => (intOf i + 1).toNat)
  case atStart => exact ⟨0, by omega, by simp, ⟨rfl, Or.inl ⟨rfl, rfl⟩⟩, Ext.refl _⟩
  case round =>
    obtain ⟨k, hk, rfl, hown, hext⟩ := hrel
    by_cases hlt : k < len
    · have hcell := hext.reads (hC.out (len - 1 - k) (by omega))
      obtain ⟨x, ex⟩ : ∃ x, xs.getD (len - 1 - k) 0 = x := ⟨_, rfl⟩
      have hrel' := fun v' w1 h => @sumsRel k len w w1 v' xs hlt hLen.out h
      rw [ex] at hcell hrel'
      have HR := Lib.hid hrel'
      clear ex hrel'
      go_wp2_with (at_builtin; refine wpList_append_own _ rfl _ _ 31 rfl w.heap.size 22 i0 (.int .u64 0) 1 8 Try.underlying31 hi hz0 hz1 hz2 rfl (by decide) _ _ _ rfl (hown.alloc _) ⟨wr.heap.size, 0, none⟩ 1 1 [.int .u64 x] rfl rfl ?c1 ?c2 ?c3 ?c4 ?c5 ?_)
      case c1 =>
        intro j u hj
        rcases j with _ | j
        · simp at hj; subst hj; simp [Addr.add]
        · simp at hj
      case c2 => simp [Value.oneCell']
      case c3 => unfold maxLen; omega
      case c4 => omega
      case c5 => have := hext.size; simp; omega
      intro v' w1 hown1 hgrow1 _
      have hrel2 := HR.out _ _ hown1
      have hext2 := ext_grown hext hown hgrow1
      clear hown hext hown1 hgrow1 HR
      go_wp2
      go_roundw
      case rel => exact ⟨k + 1, by omega, by congr 1; omega, hrel2, hext2⟩
      case measure => simp [intOf]; omega
    · obtain rfl : len = k := by omega
      have hlen' := hLen.out
      have hfull : (xs.map (Value.int .u64)).reverse.take xs.length = (xs.map (Value.int .u64)).reverse := List.take_of_length_le (by simp)
      have hcellR : ∀ i, i < xs.length → wr.cell? ⟨b, off + i, none⟩ = some (.int .u64 (xs.getD i 0)) := fun i hi => hext.reads (hC.out i (by omega))
      have HSum : Hid (∀ w', Ext wr w' → Calls Try.prog 21 #[.slice (some ⟨b, off, none⟩) len cap] w' fun e w'' => e = .returned (.int .u64 (usum xs)) ∧ w' = w'') := Lib.hid fun w' hx => by
        have h := nAdd xs b off cap hX.out (by unfold maxLen; omega) w' (fun i hi => hx.reads (hcellR i hi))
        rw [hLen.out] at h
        exact h
      have HCR := Lib.hid hcellR
      clear hcellR hlen' hfull
      obtain ⟨S, eS0⟩ : ∃ S, usum xs = S := ⟨_, rfl⟩
      rw [eS0] at HSum
      have eS := Lib.hid eS0
      clear eS0
      obtain ⟨K, hK⟩ : ∃ K : Nat, at_ % ((len : Int) + 1) = K := ⟨(at_ % ((len : Int) + 1)).toNat, by have := Int.emod_nonneg at_ (show (len : Int) + 1 ≠ 0 by omega); omega⟩
      have hKl : K ≤ len := by have := Int.emod_lt_of_pos at_ (show (0 : Int) < (len : Int) + 1 by omega); omega
      go_wp2_with fail
      refine (HSum.out _ (Ext.refl _)).mono ?_
      rintro e w1 ⟨rfl, rfl⟩
      go_wp2
      go_loop [9] (fun i => ∃ j : Nat, j ≤ len ∧ i = .int .i64 j) (fun i => len - (intOf i).toNat)
      case atStart => exact ⟨0, by omega, rfl⟩
      case round =>
        obtain ⟨j, hj, rfl⟩ := hrel
        by_cases hjl : j < len
        · have hcell := HCR.out j (by rw [hLen.out]; exact hjl)
          have hle := elem_le_usum xs j (by rw [hLen.out]; exact hjl) hX.out
          rw [eS.out] at hle
          obtain ⟨x, ex⟩ : ∃ x, xs.getD j 0 = x := ⟨_, rfl⟩
          rw [ex] at hcell hle
          clear ex
          go_wp2
          go_round
          case rel => exact ⟨j + 1, by omega, by go_num⟩
          case measure => simp [intOf]; omega
        · obtain rfl : len = j := by omega
          obtain ⟨g, cp, rfl, hcp, hcpm, hgc⟩ := own_cells hown hpos
          have HBack : Hid (∀ w', Ext wr w' → Calls Try.prog 21 #[.slice (some ⟨g, 0, none⟩) len cp] w' fun e w'' => e = .returned (.int .u64 S) ∧ w' = w'') := Lib.hid fun w' hx => by
            have h := nAdd xs.reverse g 0 cp (rev_U hX.out) (by have := hLen.out; unfold maxLen; simp; omega) w' (fun i hi => by
              have hi' : i < xs.length := by simpa using hi
              have := hx.reads (hgc i (by rw [hLen.out] at hi'; exact hi'))
              rw [rev_get hi' hLen.out] at this
              simpa using this)
            rw [List.length_reverse, hLen.out, usum_rev, eS.out] at h
            exact h
          have HTake : Hid (∀ w', Ext wr w' → Calls Try.prog 21 #[.slice (some ⟨b, off, none⟩) K cap] w' fun e w'' => e = .returned (.int .u64 (usum (xs.take K))) ∧ w' = w'') := Lib.hid fun w' hx => by
            have hl := hLen.out
            have ht : (xs.take K).length = K := by simp; omega
            have h := nAdd (xs.take K) b off cap (fun i hi => by rw [take_getD hi]; exact hX.out i (by rw [ht] at hi; omega)) (by rw [ht]; unfold maxLen; omega) w' (fun i hi => by
              rw [take_getD hi]; exact hx.reads (HCR.out i (by rw [ht] at hi; omega)))
            rw [ht] at h
            exact h
          have HCut := Lib.hid (usum_cut xs K hX.out)
          rw [eS.out] at HCut
          have hUT := usum_U (xs.take K) (fun i hi => by
            have h' : i < K ∧ i < xs.length := by simp at hi; omega
            rw [take_getD hi]; exact hX.out i h'.2)
          have hUD := usum_U (xs.drop K) (fun i hi => by
            have h' : K + i < xs.length := by simp at hi; omega
            have := hX.out (K + i) h'
            simpa [List.getD] using this)
          obtain ⟨s1, es1⟩ : ∃ x, usum (xs.take K) = x := ⟨_, rfl⟩
          obtain ⟨s2, es2⟩ : ∃ x, usum (xs.drop K) = x := ⟨_, rfl⟩
          rw [es1] at HTake HCut hUT
          rw [es2] at HCut hUD
          have hK0 : (0 : Int) ≤ (K : Int) := by omega
          have hK1 : (K : Int) ≤ (len : Int) := by omega
          have hK2 : (K : Int) ≤ (cap : Int) := by omega
          clear es1 hown
          by_cases hKc : K < len
          · have HDrop : Hid (∀ w', Ext wr w' → Calls Try.prog 21 #[.slice (some ⟨b, off + K, none⟩) (len - K) (cap - K)] w' fun e w'' => e = .returned (.int .u64 s2) ∧ w' = w'') := Lib.hid fun w' hx => by
              have hl := hLen.out
              have ht : (xs.drop K).length = len - K := by simp; omega
              have h := nAdd (xs.drop K) b (off + K) (cap - K) (fun i hi => by
                have h' : K + i < xs.length := by simp at hi; omega
                have := hX.out (K + i) h'
                simpa [List.getD] using this) (by rw [ht]; unfold maxLen; omega) w' (fun i hi => by
                have h' : K + i < xs.length := by simp at hi; omega
                have := hx.reads (HCR.out (K + i) h')
                simpa [List.getD, Nat.add_assoc] using this)
              rw [ht, es2] at h
              exact h
            clear es2
            go_wp2
            go_region_held3 (fun _ => True) (trivial)
              (first
                | (go_at_call 20; refine (nKnown _).mono ?_; rintro e w1 ⟨rfl, hb⟩)
                | (go_at_call_of 21 (Value.slice (some ⟨g, 0, none⟩) len cp); refine (HBack.out _ ?_).mono ?_; exact (Ext.refl _).drew.trans hb; rintro e w2 ⟨rfl, rfl⟩)
                | (go_at_call_of 21 (Value.slice (some ⟨b, off, none⟩) K cap); refine (HTake.out _ ?_).mono ?_; exact (Ext.refl _).drew.trans hb; rintro e w2 ⟨rfl, rfl⟩)
                | (go_at_call_of 21 (Value.slice (some ⟨b, off + K, none⟩) (len - K) (cap - K)); refine (HDrop.out _ ?_).mono ?_; exact (Ext.refl _).drew.trans hb; rintro e w2 ⟨rfl, rfl⟩)
                | (go_at_call 21; refine (nAdd2 s1 s2 _ _ hUT hUD _ ?_ ?_).mono ?_; (go_simp); (go_simp); rw [HCut.out]; rintro e w2 ⟨rfl, rfl⟩))
            go_wp2
            go_ret
            exact ⟨rfl, by repeat (first | exact Ext.refl _ | assumption | apply Ext.drew | apply Ext.alloc | (refine Ext.setCell ?_ (by simp <;> omega) _) | refine Ext.trans ?_ (by assumption))⟩
          · obtain rfl : len = K := by omega
            have hs2 : s2 = 0 := by rw [← es2, List.drop_of_length_le (by rw [hLen.out]; omega)]; rfl
            subst hs2
            clear es2
            by_cases hcc : len < cap
            · have hcc' : (len : Int) < (cap : Int) := by omega
              go_wp2
              go_region_held3 (fun _ => True) (trivial)
                (first
                  | (go_at_call 20; refine (nKnown _).mono ?_; rintro e w1 ⟨rfl, hb⟩)
                  | (go_at_call_of 21 (Value.slice (some ⟨g, 0, none⟩) len cp); refine (HBack.out _ ?_).mono ?_; exact (Ext.refl _).drew.trans hb; rintro e w2 ⟨rfl, rfl⟩)
                  | (go_at_call_of 21 (Value.slice (some ⟨b, off, none⟩) len cap); refine (HTake.out _ ?_).mono ?_; exact (Ext.refl _).drew.trans hb; rintro e w2 ⟨rfl, rfl⟩)
                  | (go_at_call 21; with_reducible refine (nAddE _ _ _).mono ?_; rintro e w2 ⟨rfl, rfl⟩)
                  | (go_at_call 21; refine (nAdd2 s1 0 _ _ hUT hUD _ ?_ ?_).mono ?_; (go_simp); (go_simp); rw [HCut.out]; rintro e w2 ⟨rfl, rfl⟩))
              go_wp2
              go_ret
              exact ⟨rfl, by repeat (first | exact Ext.refl _ | assumption | apply Ext.drew | apply Ext.alloc | (refine Ext.setCell ?_ (by simp <;> omega) _) | refine Ext.trans ?_ (by assumption))⟩
            · obtain rfl : len = cap := by omega
              go_wp2
              go_region_held3 (fun _ => True) (trivial)
                (first
                  | (go_at_call 20; refine (nKnown _).mono ?_; rintro e w1 ⟨rfl, hb⟩)
                  | (go_at_call_of 21 (Value.slice (some ⟨g, 0, none⟩) len cp); refine (HBack.out _ ?_).mono ?_; exact (Ext.refl _).drew.trans hb; rintro e w2 ⟨rfl, rfl⟩)
                  | (go_at_call_of 21 (Value.slice (some ⟨b, off, none⟩) len len); refine (HTake.out _ ?_).mono ?_; exact (Ext.refl _).drew.trans hb; rintro e w2 ⟨rfl, rfl⟩)
                  | (go_at_call 21; with_reducible refine (nAddE _ _ _).mono ?_; rintro e w2 ⟨rfl, rfl⟩)
                  | (go_at_call 21; refine (nAdd2 s1 0 _ _ hUT hUD _ ?_ ?_).mono ?_; (go_simp); (go_simp); rw [HCut.out]; rintro e w2 ⟨rfl, rfl⟩))
              go_wp2
              go_ret
              exact ⟨rfl, by repeat (first | exact Ext.refl _ | assumption | apply Ext.drew | apply Ext.alloc | (refine Ext.setCell ?_ (by simp <;> omega) _) | refine Ext.trans ?_ (by assumption))⟩

end Go.Proofs.Ytnicanbkocphlaa
