/- Events of choices; the chapter's example. -/
import Derived.Test.YtfabgfenelaheaaPastDec
import Derived.Test.YtfabgfenelaheaaSpecPE
set_option linter.unusedVariables false
namespace Go.Proofs.Ytfabgfenelaheaa
open Go.RowKit

attribute [local go_sem] ite_min ite_max

/-- A row of steps in memory: a wait, a weight, how big, the kind. -/
def IsSt (w : World) (a : Option Addr) (len : Nat) (Z : Nat → Nat → Int) : Prop :=
  len ≤ maxLen ∧ OkZ Z len ∧ (len = 0 ∨ ∃ b off, a = some ⟨b, off, none⟩ ∧ ∀ i, i < len →
    w.cell? ⟨b, off + i * 4, none⟩ = some (.int .u32 (Z i 0)) ∧ w.cell? ⟨b, off + i * 4 + 1, none⟩ = some (.int .u16 (Z i 1)) ∧ w.cell? ⟨b, off + i * 4 + 2, none⟩ = some (.int .u8 (Z i 2)) ∧ w.cell? ⟨b, off + i * 4 + 3, none⟩ = some (.int .u8 (Z i 3)))

theorem IsSt.below {w w' : World} {a : Option Addr} {len : Nat} {Z : Nat → Nat → Int} (h : IsSt w a len Z) (hb : Ext w w') : IsSt w' a len Z := by
  obtain ⟨h1, h2, h3⟩ := h
  refine ⟨h1, h2, ?_⟩
  rcases h3 with h | ⟨b, off, e, hc⟩
  · exact .inl h
  · exact .inr ⟨b, off, e, fun i hi => ⟨hb.reads (hc i hi).1, hb.reads (hc i hi).2.1, hb.reads (hc i hi).2.2.1, hb.reads (hc i hi).2.2.2⟩⟩

theorem evs_UL {Z : Nat → Nat → Int} {n k : Nat} (h : OkZ Z n) (hk : k ≤ n) (h40 : k ≤ 40) : UL (evs Z k) := (evs_sm (h.le hk) h40).UL

set_option maxRecDepth 20000 in
set_option maxHeartbeats 2000000 in
theorem eEvents (a : Option Addr) (len cap : Nat) (Z : Nat → Nat → Int) (w : World) (hS : IsSt w a len Z) :
    Calls Try.prog 18 #[.slice a len cap] w fun e w' => ∃ v, e = .returned v ∧ OwnEv w' w.heap.size v (evs Z (min len 40)) ∧ Ext w w' := by
  obtain ⟨i0, hi, hz0, hz1, hz2⟩ := info_parts infoE
  obtain ⟨hmax, hOk, hrow⟩ := hS
  rw [maxLen_lit] at hmax
  have HR := Lib.hid hrow
  have HO := Lib.hid hOk
  clear hrow hOk
  go_enter Try.func18, Try.ntmps18
  go_wp2
  go_loopw [3, 4, 5] (fun out now k wr => ∃ j : Nat, j ≤ min len 40 ∧ k = .int .i64 j ∧ now = .int .u64 (evAt Z j) ∧ OwnEv wr w.heap.size out (evs Z j) ∧ Ext w wr) (fun _ _ k _ => 40 - (intOf k).toNat)
  case atStart => exact ⟨0, by omega, rfl, rfl, OwnEv.nil _ _, Ext.refl _⟩
  case round =>
    obtain ⟨j, hj, rfl, rfl, hown, hx⟩ := hrel
    by_cases hlt : j < len
    · by_cases h40 : j < 40
      · rcases HR.out with h | ⟨b, off, rfl, hc⟩
        · omega
        obtain ⟨c0, c1, c2, c3⟩ := hc j hlt
        have hD := evD_le HO.out hlt
        have hW := evW_le HO.out hlt
        have hA := evAt_le HO.out j (by omega)
        obtain ⟨⟨z0, z0'⟩, ⟨z1, z1'⟩, ⟨z2, z2'⟩, ⟨z3, z3'⟩⟩ := HO.out j hlt
        have eD : evD Z j = Z j 0 / 2 ^ (Z j 2 % 32).toNat := rfl
        have eW : evW Z j = Z j 1 * 2 ^ (Z j 2 % 20).toNat := rfl
        have eA : evAt Z (j + 1) = evAt Z j + evD Z j := rfl
        obtain ⟨x0, ex0⟩ : ∃ x, Z j 0 = x := ⟨_, rfl⟩
        obtain ⟨x1, ex1⟩ : ∃ x, Z j 1 = x := ⟨_, rfl⟩
        obtain ⟨x2, ex2⟩ : ∃ x, Z j 2 = x := ⟨_, rfl⟩
        obtain ⟨A, xA⟩ : ∃ x, evAt Z j = x := ⟨_, rfl⟩
        obtain ⟨D, xD⟩ : ∃ x, evD Z j = x := ⟨_, rfl⟩
        obtain ⟨V, xV⟩ : ∃ x, evW Z j = x := ⟨_, rfl⟩
        obtain ⟨A', xA'⟩ : ∃ x, evAt Z (j + 1) = x := ⟨_, rfl⟩
        have hes := evs_succ Z j
        rw [ex0] at c0 z0 z0' eD
        rw [ex1] at c1 z1 z1' eW
        rw [ex2] at c2 z2 z2' eD eW
        rw [xA] at hA eA
        rw [xD] at hD eD eA
        rw [xV] at hW eW hes
        rw [xA'] at eA hes
        rw [xA]
        have d0 := hx.reads c0
        have d1 := hx.reads c1
        have d2 := hx.reads c2
        have HES := Lib.hid hes
        have HA := Lib.hid xA'
        have ED := Lib.hid eD
        have EW := Lib.hid eW
        have EA := Lib.hid eA
        have HC := Lib.hid (And.intro c1 c2)
        have E1 := Lib.hid (show IntKind.u64.wrap (x0 / 2 ^ (x2 % 32).toNat) = D by rw [← ED.out, IntKind.wrap_u64]; omega)
        have E2 := Lib.hid (show IntKind.u64.wrap (A + D) = A' by rw [EA.out, IntKind.wrap_u64]; omega)
        have E3 := Lib.hid (show IntKind.u64.wrap x1 = x1 by rw [IntKind.wrap_u64]; omega)
        have E4 := Lib.hid (show IntKind.u64.wrap (x1 * 2 ^ min (IntKind.u64.wrap (x2.tmod 20)).toNat 64) = V from by
          have t1 : x2.tmod 20 = x2 % 20 := Int.tmod_eq_emod_of_nonneg z2
          have t2 : IntKind.u64.wrap (x2 % 20) = x2 % 20 := by rw [IntKind.wrap_u64]; omega
          rw [t1, t2, Nat.min_eq_left (by omega), ← EW.out, IntKind.wrap_u64]
          omega)
        have hl1 : (j : Int) < (len : Int) := by omega
        have hl2 : (j : Int) < 40 := by omega
        clear hc ex0 ex1 ex2 xA xD xV xA' hes eD eW eA c0 c1 c2 c3 z3 z3'
        go_wp2
        go_quiet (fail)
        rw [E1.out, E2.out]
        have hown5 := hown.ext ((Ext.refl wr).drewN nq)
        have hx5 := hx.drewN nq
        have d15 := ((Ext.refl wr).drewN nq).reads d1
        have d25 := ((Ext.refl wr).drewN nq).reads d2
        obtain ⟨W5, e5⟩ : ∃ x, wr.drewN nq = x := ⟨_, rfl⟩
        rw [e5] at hown5 hx5 d15 d25 ⊢
        have H5 := Lib.hid hown5
        have hblt : b < W5.heap.size := World.block_lt_of_cell? W5 _ d15
        have hw5 := E3.out
        have hw6 := E4.out
        clear hown hx d0 d1 d2 hown5 e5
        go_wp2
        go_region_held3 (fun w' => w'.cell? ⟨b, off + j * 4 + 1, none⟩ = some (.int .u16 x1) ∧ w'.cell? ⟨b, off + j * 4 + 2, none⟩ = some (.int .u8 x2) ∧ Ext w w')
          (first
            | exact ⟨hb.reads HC.out.1, hb.reads HC.out.2, hb⟩
            | exact ⟨by go_simp, by go_simp, by repeat (first | exact Ext.refl _ | assumption | apply Ext.drew | apply Ext.alloc | (refine Ext.setCell ?_ (by simp <;> omega) _) | refine Ext.trans ?_ (by assumption))⟩)
          ((rw [if_pos (by rfl)]; refine wp_append_own _ _ _ 22 rfl w.heap.size 29 i0 (.agg #[.int .u64 0, .int .u64 0]) 2 16 Try.underlying22 hi hz0 hz1 hz2 rfl (by decide) u3 (evs Z j).length (flat (evs Z j)) rfl (H5.out.ext (by repeat (first | exact Ext.refl _ | assumption | apply Ext.drew | apply Ext.alloc | (refine Ext.setCell ?_ (by simp <;> omega) _) | refine Ext.trans ?_ (by assumption)))) ⟨W5.heap.size, 0, none⟩ 1 1 [.int .u64 A', .int .u64 V] rfl rfl (two_news (by go_simp) (by go_simp)) two_one (by rw [evs_length]; unfold maxLen; omega) (by rw [evs_length]; omega) (by have := hx5.size; simp; omega) ?_; intro v' w1 hown1 hgrow1 _; have hb : Ext w w1 := ext_own (L := evs Z j) (by repeat (first | exact Ext.refl _ | assumption | apply Ext.drew | apply Ext.alloc | (refine Ext.setCell ?_ (by simp <;> omega) _) | refine Ext.trans ?_ (by assumption))) (H5.out.ext (by repeat (first | exact Ext.refl _ | assumption | apply Ext.drew | apply Ext.alloc | (refine Ext.setCell ?_ (by simp <;> omega) _) | refine Ext.trans ?_ (by assumption)))) hgrow1))
        have ho1 := own_snoc hown1
        rw [← HES.out] at ho1
        clear hw5 hw6 hown1
        go_wp2
        go_roundw
        case rel => exact ⟨j + 1, by omega, by simp, by rw [HA.out], ho1, hb⟩
        case measure => simp [intOf]; omega
      · have hj40 : min len 40 = j := by omega
        have hl1 : (j : Int) < (len : Int) := by omega
        have hl2 : ¬ (j : Int) < 40 := by omega
        go_wp2
        go_ret
        exact ⟨u3, rfl, hown, hx⟩
    · have hj40 : min len 40 = j := by omega
      have hl1 : ¬ (j : Int) < (len : Int) := by omega
      go_wp2
      go_ret
      exact ⟨u3, rfl, hown, hx⟩

theorem UL_known1 : UL [(5, 8)] := by rw [UL.mem]; intro e he; simp at he; subst he; unfold U; omega
theorem UL_known2 : UL [(5, 8), (8, 5)] := by rw [UL.mem]; intro e he; simp at he; rcases he with rfl | rfl <;> (unfold U; omega)

theorem ev_one {w : World} {x y : Int} (t : TypeId) (hx : U x) (hy : U y) : IsEv (w.alloc (.cells #[.int .u64 x, .int .u64 y] t)) (some ⟨w.heap.size, 0, none⟩) 1 1 [(x, y)] := by
  refine ⟨rfl, ⟨by omega, by unfold maxLen; omega, fun h => by cases h⟩, ?_, .inr ⟨_, _, rfl, by simp, fun i hi => ?_⟩⟩
  · intro i hi; simp at hi; subst hi; exact ⟨hx, hy⟩
  · simp at hi; subst hi; exact two_frame

set_option maxRecDepth 20000 in
set_option maxHeartbeats 1000000 in
theorem pKnown (w : World) : Calls Try.prog 17 #[] w fun e w' => e = .returned (.bool true) ∧ Ext w w' := by
  have k1 := Lib.hid (show pconf ([(5, 8)] ++ [(8, 6)]) 10 = false by decide)
  have k2 := Lib.hid (show pconf ([(5, 8)] ++ [(8, 5)]) 10 = true by decide)
  have k3 := Lib.hid (show pfill [(5, 8)] 8 = 5 by decide)
  have k4 := Lib.hid (show pconf [(5, 8), (8, 5)] 10 = true by decide)
  have k5 := Lib.hid (show pconf [(5, 8), (8, 5)] 9 = false by decide)
  have k6 := Lib.hid (show prises [(5, 8), (8, 5)] = true by decide)
  have hI := Lib.hid (ev_one (w := w) (x := 5) (y := 8) 29 (by unfold U; omega) (by unfold U; omega))
  go_enter Try.func17, Try.ntmps17
  go_wp2_with fail
  refine (pDecide (some ⟨w.heap.size, 0, none⟩) 1 1 [(5, 8)] 8 10 6 (by unfold U; omega) (by unfold U; omega) (by unfold U; omega) _ hI.out (by omega)).mono ?_
  rw [k1.out]
  rintro e w1 ⟨v1, rfl, ho1, hx1⟩
  obtain ⟨a1, c1, rfl, hi1, -⟩ := OwnEv.ev (L := [(5, 8)]) ho1 UL_known1
  clear ho1 hi1
  go_wp2_with fail
  refine (pDecide (some ⟨w.heap.size, 0, none⟩) 1 1 [(5, 8)] 8 10 5 (by unfold U; omega) (by unfold U; omega) (by unfold U; omega) _ (hI.out.below hx1) (by omega)).mono ?_
  rw [k2.out]
  rintro e w2 ⟨v2, rfl, ho2, hx2⟩
  obtain ⟨a2, c2, rfl, hi2, -⟩ := OwnEv.ev (L := [(5, 8), (8, 5)]) ho2 UL_known2
  have H2 := Lib.hid hi2
  clear ho2 hi2
  go_wp2_with fail
  refine (pFill (some ⟨w.heap.size, 0, none⟩) 1 1 [(5, 8)] 8 (by unfold U; omega) _ (hI.out.below (hx1.trans hx2))).mono ?_
  rw [k3.out]
  rintro e w3 ⟨rfl, hx3⟩
  go_wp2_with fail
  refine (pConforms a2 2 c2 [(5, 8), (8, 5)] 10 (by unfold U; omega) _ (H2.out.below hx3)).mono ?_
  rw [k4.out]
  rintro e w4 ⟨rfl, hx4⟩
  go_wp2_with fail
  refine (pConforms a2 2 c2 [(5, 8), (8, 5)] 9 (by unfold U; omega) _ (H2.out.below (hx3.trans hx4))).mono ?_
  rw [k5.out]
  rintro e w5 ⟨rfl, hx5⟩
  go_wp2_with fail
  refine (pRises a2 2 c2 [(5, 8), (8, 5)] _ (H2.out.below ((hx3.trans hx4).trans hx5))).mono ?_
  rw [k6.out]
  rintro e w6 ⟨rfl, hx6⟩
  go_wp2
  go_ret
  exact ⟨rfl, by have h1 := hx1.past; repeat (first | exact Ext.refl _ | assumption | apply Ext.drew | apply Ext.alloc | (refine Ext.setCell ?_ (by simp <;> omega) _) | refine Ext.trans ?_ (by assumption))⟩

end Go.Proofs.Ytfabgfenelaheaa
