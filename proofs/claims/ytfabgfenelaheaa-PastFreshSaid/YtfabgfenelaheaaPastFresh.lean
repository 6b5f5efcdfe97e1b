/- The walk of the law PastFresh. -/
import Derived.Test.YtfabgfenelaheaaPastEvt
set_option linter.unusedVariables false
namespace Go.Proofs.Ytfabgfenelaheaa
open Go.RowKit

attribute [local go_sem] ite_min ite_max

/-- the cells of an owned row are there, and may be written -/
theorem OwnEv.cells {w : World} {base n c : Nat} {a : Option Addr} {L : List (Int × Int)} (h : OwnEv w base (.slice a n c) L) (hl : L.length = n) (h0 : 0 < n) (hU : UL L) :
    ∃ g, a = some ⟨g, 0, none⟩ ∧ base ≤ g ∧ g < w.heap.size ∧ ∃ Y : Nat → Int, ∀ j, j < n → U (Y j) ∧ w.cell? ⟨g, j * 2, none⟩ = some (.int .u64 (Y j)) ∧ w.frozen? ⟨g, j * 2, none⟩ = false := by
  have h' := h
  obtain ⟨_, ⟨hv, hn⟩ | ⟨g, cap, cur, hv, hg, hh, hnc, hcm, hsz, htake⟩⟩ := h'
  · omega
  · have e1 : a = some ⟨g, 0, none⟩ := by cases hv; rfl
    subst e1
    have hev := h.ev' hU
    obtain ⟨b, off, e, hc⟩ := hev.at h0
    cases e
    refine ⟨g, rfl, hg, (Array.getElem?_eq_some_iff.1 hh).1, fun j => (L.getD j (0, 0)).1, fun j hj => ⟨(hU j (by omega)).1, ?_, ?_⟩⟩
    · have := (hc j hj).1
      rwa [Nat.zero_add] at this
    · simp [World.frozen?, hh]

theorem wrap_U (x : Int) : U (IntKind.u64.wrap x) := by rw [IntKind.wrap_u64]; unfold U; omega

theorem cell_other {w : World} {g i j : Nat} {u : Value} (h : i ≠ j) : (w.setCell ⟨g, i, none⟩ u).cell? ⟨g, j, none⟩ = w.cell? ⟨g, j, none⟩ := by
  have hne : (⟨g, i, none⟩ : Addr) ≠ ⟨g, j, none⟩ := by
    intro e
    injection e with e1 e2 e3
    exact h e2
  apply World.cell?_setCell_other; exact hne

set_option maxRecDepth 20000 in
set_option maxHeartbeats 4000000 in
theorem kFreshLaw (a : Option Addr) (len cap : Nat) (L : List (Int × Int)) (now c v : Int) (hn : U now) (hc : U c) (hv : U v) (w : World) (hI : IsEv w a len cap L) :
    Calls Try.prog 7 #[.slice a len cap, .int .u64 now, .int .u64 c, .int .u64 v] w fun e w' => e = .returned (.bool true) ∧ Ext w w' := by
  obtain ⟨i0, hi, hz0, hz1, hz2⟩ := info_parts infoE
  have hmax := Nat.le_trans hI.2.1.1 hI.2.1.2.1
  rw [maxLen_lit] at hmax
  by_cases h40 : len ≤ 40
  · have hl : ¬ (40 : Int) < (len : Int) := by omega
    have hlen := hI.1
    have hU := hI.2.2.1
    have HI := Lib.hid hI
    have HU := Lib.hid hU
    have HLen := Lib.hid hlen
    obtain ⟨M, eM⟩ : ∃ M, L ++ [(now, v)] = M := ⟨_, rfl⟩
    have hUM := UL.snoc (e := (now, v)) hU hn hv
    have hML : M.length = len + 1 := by rw [← eM]; simp; omega
    rw [eM] at hUM
    obtain ⟨B, eB⟩ : ∃ B, pconf M c = B := ⟨_, rfl⟩
    have HB := Lib.hid (And.intro eM eB)
    have HUM := Lib.hid hUM
    have HML := Lib.hid hML
    clear eM eB hUM hML hU
    cases a with
    | none =>
      have hcap := hI.2.1.2.2 rfl
      have hl0 : len = 0 := by have := hI.2.1.1; omega
      clear hI hlen
      subst hl0
      subst hcap
      have hL0 : L = [] := List.eq_nil_of_length_eq_zero HLen.out.symm
      subst hL0
      cases B with
      | true =>
        go_enter Try.func7, Try.ntmps7
        go_wp2_with (at_builtin; refine wpList_append_nn rfl _ _ rfl rfl rfl ?_)
        have ho0 : OwnEv w w.heap.size (.slice none 0 0) [] := OwnEv.nil _ _
        have hx0 : Ext w w := Ext.refl w
        obtain ⟨w0, ew0⟩ : ∃ x, x = w := ⟨_, rfl⟩
        obtain ⟨a0, c0, ha0, hc0⟩ : ∃ (a0 : Option Addr) (c0 : Nat), a0 = none ∧ c0 = 0 := ⟨_, _, rfl, rfl⟩
        have HI0 := Lib.hid HI.out
        go_wp2_with fail
        refine (pDecide none 0 0 [] now c v hn hc hv _ HI0.out (by omega)).mono ?_
        rw [HB.out.1, HB.out.2]
        rintro e w1 ⟨v1, rfl, ho1, hx1⟩
        have ho1' : OwnEv w1 w.heap.size v1 M := ho1
        obtain ⟨a1, c1, rfl, hi1, -⟩ := ho1'.ev HUM.out
        rw [HML.out] at hi1 ho1' ⊢
        obtain ⟨n, hnn⟩ : ∃ n, n = 0 + 1 := ⟨_, rfl⟩
        rw [← hnn] at hi1 ho1' ⊢
        have hci := hi1.2.1.1
        have hlM : M.length = n := by rw [HML.out, hnn]
        obtain ⟨g, rfl, hg, hgl, Y, hY⟩ := ho1'.cells hlM (by omega) HUM.out
        have hY0 := Lib.hid hY
        clear hi1 ho1 ho1' hY
        have hnm : (0 : Int) + 1 = (n : Int) := by omega
        have hn41 : n ≤ 41 := by omega
        clear hnn
        go_wp2
        go_loopw [13] (fun i wr => ∃ k : Nat, k ≤ n ∧ i = .int .i64 k ∧ Ext w wr ∧ ∃ Y : Nat → Int, Hid (∀ j, j < n → U (Y j) ∧ wr.cell? ⟨g, j * 2, none⟩ = some (.int .u64 (Y j)) ∧ wr.frozen? ⟨g, j * 2, none⟩ = false)) (fun i _ => n - (intOf i).toNat)
        case atStart => exact ⟨0, by omega, rfl, hx1, Y, hY0⟩
        case round =>
          obtain ⟨k, hk, rfl, hxr, Y1, hY1⟩ := hrel
          by_cases hlt : k < n
          · obtain ⟨hyu, d0, f0⟩ := hY1.out k hlt
            obtain ⟨y, ey⟩ : ∃ y, Y1 k = y := ⟨_, rfl⟩
            rw [ey] at hyu d0
            obtain ⟨y0, y1⟩ := hyu
            have hl1 : (k : Int) < (n : Int) := by omega
            clear ey
            go_wp2
            go_roundw
            case rel =>
              refine ⟨k + 1, by omega, by simp, hxr.setCell (show w.heap.size ≤ g from hg) _, fun j => if j = k then IntKind.u64.wrap (y + 1) else Y1 j, Lib.hid (fun j hj => ?_)⟩
              by_cases hjk : j = k
              · subst hjk
                dsimp only
                rw [if_pos rfl]
                refine ⟨wrap_U _, World.cell?_setCell_same' _ _ _ (by rw [d0]; rfl), by rw [World.frozen?_setCell]; exact f0⟩
              · dsimp only
                rw [if_neg hjk]
                obtain ⟨h1, h2, h3⟩ := hY1.out j hj
                refine ⟨h1, ?_, by rw [World.frozen?_setCell]; exact h3⟩
                rw [cell_other (by simp; omega)]
                exact h2
            case measure => simp [intOf]; omega
          · have hkn : k = n := by omega
            have hl1 : ¬ (k : Int) < (n : Int) := by omega
            clear hkn
            go_wp2_with fail
            refine (pKnown _).mono ?_
            rintro e w3 ⟨rfl, hx3⟩
            go_wp2_with fail
            refine (rSame none none 0 0 0 0 [] [] _ (HI0.out.below (hxr.trans hx3)) (HI.out.below ((hx0.trans hxr).trans hx3))).mono ?_
            rw [show decide ([] = []) = true from decide_eq_true rfl]
            rintro e w4 ⟨rfl, hx4⟩
            go_wp2
            go_ret
            exact ⟨rfl, by repeat (first | exact Ext.refl _ | assumption | apply Ext.drew | apply Ext.alloc | (refine Ext.setCell ?_ (by simp <;> omega) _) | refine Ext.trans ?_ (by assumption))⟩
      | false =>
        go_enter Try.func7, Try.ntmps7
        go_wp2_with (at_builtin; refine wpList_append_nn rfl _ _ rfl rfl rfl ?_)
        have ho0 : OwnEv w w.heap.size (.slice none 0 0) [] := OwnEv.nil _ _
        have hx0 : Ext w w := Ext.refl w
        obtain ⟨w0, ew0⟩ : ∃ x, x = w := ⟨_, rfl⟩
        obtain ⟨a0, c0, ha0, hc0⟩ : ∃ (a0 : Option Addr) (c0 : Nat), a0 = none ∧ c0 = 0 := ⟨_, _, rfl, rfl⟩
        have HI0 := Lib.hid HI.out
        go_wp2_with fail
        refine (pDecide none 0 0 [] now c v hn hc hv _ HI0.out (by omega)).mono ?_
        rw [HB.out.1, HB.out.2]
        rintro e w1 ⟨v1, rfl, ho1, hx1⟩
        have ho1' : OwnEv w1 w.heap.size v1 [] := ho1
        obtain ⟨a1, c1, rfl, hi1, -⟩ := ho1'.ev HU.out
        rw [← HLen.out] at hi1 ho1' ⊢
        have hci := hi1.2.1.1
        clear hi1 ho1 ho1'
        go_wp2
        go_loopw [13] (fun i wr => i = .int .i64 0 ∧ Ext w wr) (fun _ _ => 0)
        case atStart => exact ⟨rfl, hx1⟩
        case round =>
          obtain ⟨rfl, hxr⟩ := hrel
          go_wp2_with fail
          refine (pKnown _).mono ?_
          rintro e w3 ⟨rfl, hx3⟩
          go_wp2_with fail
          refine (rSame none none 0 0 0 0 [] [] _ (HI0.out.below (hxr.trans hx3)) (HI.out.below ((hx0.trans hxr).trans hx3))).mono ?_
          rw [show decide ([] = []) = true from decide_eq_true rfl]
          rintro e w4 ⟨rfl, hx4⟩
          go_wp2
          go_ret
          exact ⟨rfl, by repeat (first | exact Ext.refl _ | assumption | apply Ext.drew | apply Ext.alloc | (refine Ext.setCell ?_ (by simp <;> omega) _) | refine Ext.trans ?_ (by assumption))⟩
    | some ad =>
      have hnews : ∀ j u, (flat L)[j]? = some u → w.cell? (ad.add j) = some u := by
        intro j u hu
        have h0 : 0 < len := by
          have hj : j < (flat L).length := (List.getElem?_eq_some_iff.1 hu).1
          rw [flat_length] at hj; omega
        obtain ⟨b, off, e, _⟩ := hI.at h0
        cases e
        exact hI.news j u hu
      have HN := Lib.hid hnews
      clear hI hnews hlen
      cases B with
      | true =>
        go_enter Try.func7, Try.ntmps7
        go_wp2_with (at_builtin; refine wpList_append_own _ rfl _ _ 22 rfl w.heap.size 29 i0 (.agg #[.int .u64 0, .int .u64 0]) 2 16 Try.underlying22 hi hz0 hz1 hz2 rfl (by decide) _ 0 [] rfl (OwnEv.nil w w.heap.size) ad len cap (flat L) rfl (by rw [flat_length, ← HLen.out]) HN.out (flat_one L) (by unfold maxLen; omega) (by omega) (Nat.le_refl _) ?_)
        intro v0 w0 hown0 hgrow0 _
        have hx0 : Ext w w0 := ext_own (L := []) (Ext.refl w) (OwnEv.nil w w.heap.size) hgrow0
        have ho0 : OwnEv w0 w.heap.size v0 L := by unfold OwnEv; rw [← HLen.out]; simpa using hown0
        obtain ⟨a0, c0, rfl, hi0, -⟩ := ho0.ev HU.out
        rw [← HLen.out] at hi0 ⊢
        have HI0 := Lib.hid hi0
        clear hi0 ho0 hown0 hgrow0
        go_wp2_with fail
        refine (pDecide a0 len c0 L now c v hn hc hv _ HI0.out (by omega)).mono ?_
        rw [HB.out.1, HB.out.2]
        rintro e w1 ⟨v1, rfl, ho1, hx1⟩
        have ho1' : OwnEv w1 w0.heap.size v1 M := ho1
        obtain ⟨a1, c1, rfl, hi1, -⟩ := ho1'.ev HUM.out
        rw [HML.out] at hi1 ho1' ⊢
        obtain ⟨n, hnn⟩ : ∃ n, n = len + 1 := ⟨_, rfl⟩
        rw [← hnn] at hi1 ho1' ⊢
        have hci := hi1.2.1.1
        have hlM : M.length = n := by rw [HML.out, hnn]
        obtain ⟨g, rfl, hg, hgl, Y, hY⟩ := ho1'.cells hlM (by omega) HUM.out
        have hY0 := Lib.hid hY
        clear hi1 ho1 ho1' hY
        have hnm : ((len : Int) : Int) + 1 = (n : Int) := by omega
        have hn41 : n ≤ 41 := by omega
        clear hnn
        go_wp2
        go_loopw [13] (fun i wr => ∃ k : Nat, k ≤ n ∧ i = .int .i64 k ∧ Ext w0 wr ∧ ∃ Y : Nat → Int, Hid (∀ j, j < n → U (Y j) ∧ wr.cell? ⟨g, j * 2, none⟩ = some (.int .u64 (Y j)) ∧ wr.frozen? ⟨g, j * 2, none⟩ = false)) (fun i _ => n - (intOf i).toNat)
        case atStart => exact ⟨0, by omega, rfl, hx1, Y, hY0⟩
        case round =>
          obtain ⟨k, hk, rfl, hxr, Y1, hY1⟩ := hrel
          by_cases hlt : k < n
          · obtain ⟨hyu, d0, f0⟩ := hY1.out k hlt
            obtain ⟨y, ey⟩ : ∃ y, Y1 k = y := ⟨_, rfl⟩
            rw [ey] at hyu d0
            obtain ⟨y0, y1⟩ := hyu
            have hl1 : (k : Int) < (n : Int) := by omega
            clear ey
            go_wp2
            go_roundw
            case rel =>
              refine ⟨k + 1, by omega, by simp, hxr.setCell (show w0.heap.size ≤ g from hg) _, fun j => if j = k then IntKind.u64.wrap (y + 1) else Y1 j, Lib.hid (fun j hj => ?_)⟩
              by_cases hjk : j = k
              · subst hjk
                dsimp only
                rw [if_pos rfl]
                refine ⟨wrap_U _, World.cell?_setCell_same' _ _ _ (by rw [d0]; rfl), by rw [World.frozen?_setCell]; exact f0⟩
              · dsimp only
                rw [if_neg hjk]
                obtain ⟨h1, h2, h3⟩ := hY1.out j hj
                refine ⟨h1, ?_, by rw [World.frozen?_setCell]; exact h3⟩
                rw [cell_other (by simp; omega)]
                exact h2
            case measure => simp [intOf]; omega
          · have hkn : k = n := by omega
            have hl1 : ¬ (k : Int) < (n : Int) := by omega
            clear hkn
            go_wp2_with fail
            refine (pKnown _).mono ?_
            rintro e w3 ⟨rfl, hx3⟩
            go_wp2_with fail
            refine (rSame a0 (some ad) len c0 len cap L L _ (HI0.out.below (hxr.trans hx3)) (HI.out.below ((hx0.trans hxr).trans hx3))).mono ?_
            rw [show decide (L = L) = true from decide_eq_true rfl]
            rintro e w4 ⟨rfl, hx4⟩
            go_wp2
            go_ret
            exact ⟨rfl, by repeat (first | exact Ext.refl _ | assumption | apply Ext.drew | apply Ext.alloc | (refine Ext.setCell ?_ (by simp <;> omega) _) | refine Ext.trans ?_ (by assumption))⟩
      | false =>
        by_cases h0 : len = 0
        · subst h0
          go_enter Try.func7, Try.ntmps7
          go_wp2_with (at_builtin; refine wpList_append_own _ rfl _ _ 22 rfl w.heap.size 29 i0 (.agg #[.int .u64 0, .int .u64 0]) 2 16 Try.underlying22 hi hz0 hz1 hz2 rfl (by decide) _ 0 [] rfl (OwnEv.nil w w.heap.size) ad 0 cap (flat L) rfl (by rw [flat_length, ← HLen.out]) HN.out (flat_one L) (by unfold maxLen; omega) (by omega) (Nat.le_refl _) ?_)
          intro v0 w0 hown0 hgrow0 _
          have hx0 : Ext w w0 := ext_own (L := []) (Ext.refl w) (OwnEv.nil w w.heap.size) hgrow0
          have ho0 : OwnEv w0 w.heap.size v0 L := by unfold OwnEv; rw [← HLen.out]; simpa using hown0
          obtain ⟨a0, c0, rfl, hi0, -⟩ := ho0.ev HU.out
          rw [← HLen.out] at hi0 ⊢
          have HI0 := Lib.hid hi0
          clear hi0 ho0 hown0 hgrow0
          go_wp2_with fail
          refine (pDecide a0 0 c0 L now c v hn hc hv _ HI0.out (by omega)).mono ?_
          rw [HB.out.1, HB.out.2]
          rintro e w1 ⟨v1, rfl, ho1, hx1⟩
          have ho1' : OwnEv w1 w0.heap.size v1 L := ho1
          obtain ⟨a1, c1, rfl, hi1, -⟩ := ho1'.ev HU.out
          rw [← HLen.out] at hi1 ho1' ⊢
          have hci := hi1.2.1.1
          clear hi1 ho1 ho1'
          go_wp2
          go_loopw [13] (fun i wr => i = .int .i64 0 ∧ Ext w0 wr) (fun _ _ => 0)
          case atStart => exact ⟨rfl, hx1⟩
          case round =>
            obtain ⟨rfl, hxr⟩ := hrel
            go_wp2_with fail
            refine (pKnown _).mono ?_
            rintro e w3 ⟨rfl, hx3⟩
            go_wp2_with fail
            refine (rSame a0 (some ad) 0 c0 0 cap L L _ (HI0.out.below (hxr.trans hx3)) (HI.out.below ((hx0.trans hxr).trans hx3))).mono ?_
            rw [show decide (L = L) = true from decide_eq_true rfl]
            rintro e w4 ⟨rfl, hx4⟩
            go_wp2
            go_ret
            exact ⟨rfl, by repeat (first | exact Ext.refl _ | assumption | apply Ext.drew | apply Ext.alloc | (refine Ext.setCell ?_ (by simp <;> omega) _) | refine Ext.trans ?_ (by assumption))⟩
        · have hpos : 0 < len := by omega
          go_enter Try.func7, Try.ntmps7
          go_wp2_with (at_builtin; refine wpList_append_own _ rfl _ _ 22 rfl w.heap.size 29 i0 (.agg #[.int .u64 0, .int .u64 0]) 2 16 Try.underlying22 hi hz0 hz1 hz2 rfl (by decide) _ 0 [] rfl (OwnEv.nil w w.heap.size) ad len cap (flat L) rfl (by rw [flat_length, ← HLen.out]) HN.out (flat_one L) (by unfold maxLen; omega) (by omega) (Nat.le_refl _) ?_)
          intro v0 w0 hown0 hgrow0 _
          have hx0 : Ext w w0 := ext_own (L := []) (Ext.refl w) (OwnEv.nil w w.heap.size) hgrow0
          have ho0 : OwnEv w0 w.heap.size v0 L := by unfold OwnEv; rw [← HLen.out]; simpa using hown0
          obtain ⟨a0, c0, rfl, hi0, -⟩ := ho0.ev HU.out
          rw [← HLen.out] at hi0 ⊢
          have HI0 := Lib.hid hi0
          clear hi0 ho0 hown0 hgrow0
          go_wp2_with fail
          refine (pDecide a0 len c0 L now c v hn hc hv _ HI0.out (by omega)).mono ?_
          rw [HB.out.1, HB.out.2]
          rintro e w1 ⟨v1, rfl, ho1, hx1⟩
          have ho1' : OwnEv w1 w0.heap.size v1 L := ho1
          obtain ⟨a1, c1, rfl, hi1, -⟩ := ho1'.ev HU.out
          rw [← HLen.out] at hi1 ho1' ⊢
          have hci := hi1.2.1.1
          obtain ⟨g, rfl, hg, hgl, Y, hY⟩ := ho1'.cells HLen.out.symm (by omega) HU.out
          have hY0 := Lib.hid hY
          clear hi1 ho1 ho1' hY
          go_wp2
          go_loopw [13] (fun i wr => ∃ k : Nat, k ≤ len ∧ i = .int .i64 k ∧ Ext w0 wr ∧ ∃ Y : Nat → Int, Hid (∀ j, j < len → U (Y j) ∧ wr.cell? ⟨g, j * 2, none⟩ = some (.int .u64 (Y j)) ∧ wr.frozen? ⟨g, j * 2, none⟩ = false)) (fun i _ => len - (intOf i).toNat)
          case atStart => exact ⟨0, by omega, rfl, hx1, Y, hY0⟩
          case round =>
            obtain ⟨k, hk, rfl, hxr, Y1, hY1⟩ := hrel
            by_cases hlt : k < len
            · obtain ⟨hyu, d0, f0⟩ := hY1.out k hlt
              obtain ⟨y, ey⟩ : ∃ y, Y1 k = y := ⟨_, rfl⟩
              rw [ey] at hyu d0
              obtain ⟨y0, y1⟩ := hyu
              have hl1 : (k : Int) < (len : Int) := by omega
              clear ey
              go_wp2
              go_roundw
              case rel =>
                refine ⟨k + 1, by omega, by simp, hxr.setCell (show w0.heap.size ≤ g from hg) _, fun j => if j = k then IntKind.u64.wrap (y + 1) else Y1 j, Lib.hid (fun j hj => ?_)⟩
                by_cases hjk : j = k
                · subst hjk
                  dsimp only
                  rw [if_pos rfl]
                  refine ⟨wrap_U _, World.cell?_setCell_same' _ _ _ (by rw [d0]; rfl), by rw [World.frozen?_setCell]; exact f0⟩
                · dsimp only
                  rw [if_neg hjk]
                  obtain ⟨h1, h2, h3⟩ := hY1.out j hj
                  refine ⟨h1, ?_, by rw [World.frozen?_setCell]; exact h3⟩
                  rw [cell_other (by simp; omega)]
                  exact h2
              case measure => simp [intOf]; omega
            · have hkn : k = len := by omega
              have hl1 : ¬ (k : Int) < (len : Int) := by omega
              clear hkn
              go_wp2_with fail
              refine (pKnown _).mono ?_
              rintro e w3 ⟨rfl, hx3⟩
              go_wp2_with fail
              refine (rSame a0 (some ad) len c0 len cap L L _ (HI0.out.below (hxr.trans hx3)) (HI.out.below ((hx0.trans hxr).trans hx3))).mono ?_
              rw [show decide (L = L) = true from decide_eq_true rfl]
              rintro e w4 ⟨rfl, hx4⟩
              go_wp2
              go_ret
              exact ⟨rfl, by repeat (first | exact Ext.refl _ | assumption | apply Ext.drew | apply Ext.alloc | (refine Ext.setCell ?_ (by simp <;> omega) _) | refine Ext.trans ?_ (by assumption))⟩
  · have hl : (40 : Int) < (len : Int) := by omega
    clear hI
    go_enter Try.func7, Try.ntmps7
    go_wp2_with fail
    refine (pKnown _).mono ?_
    rintro e w1 ⟨rfl, hx1⟩
    go_wp2
    go_ret
    exact ⟨rfl, by repeat (first | exact Ext.refl _ | assumption | apply Ext.drew | apply Ext.alloc | (refine Ext.setCell ?_ (by simp <;> omega) _) | refine Ext.trans ?_ (by assumption))⟩

end Go.Proofs.Ytfabgfenelaheaa
