/- The walk of the law PastMeter. -/
import Derived.Test.YtfabgfenelaheaaPastEvt
import Derived.Test.YtfabgfenelaheaaLeaky
set_option linter.unusedVariables false
namespace Go.Proofs.Ytfabgfenelaheaa
open Go.RowKit

attribute [local go_sem] ite_min ite_max

theorem OwnEv.setCell {w : World} {base : Nat} {v : Value} {L : List (Int × Int)} (h : OwnEv w base v L) (p : Addr) (u : Value) (hp : p.block < base) : OwnEv (w.setCell p u) base v L := by
  refine World.ownsRow.kept h (row := some p.block) ⟨rfl, rfl, rfl, ?_, fun k _ hk => Below.heap_setCell w p u k (fun e => hk (by rw [e]))⟩ ?_
  · exact (Below.setCell (Below.refl 0 w) (Nat.zero_le _) u).size
  · refine .inr (fun e => ?_)
    have := (World.ownsRow.lt h _ e).1
    omega

set_option maxRecDepth 20000 in
set_option maxHeartbeats 4000000 in
theorem kMeterLaw (a : Option Addr) (len cap : Nat) (Z : Nat → Nat → Int) (most : Int) (hm : 0 ≤ most ∧ most ≤ 4294967295) (w : World) (hS : IsSt w a len Z) :
    Calls Try.prog 4 #[.slice a len cap, .int .u32 most] w fun e w' => e = .returned (.bool true) ∧ Ext w w' := by
  obtain ⟨i0, hi, hz0, hz1, hz2⟩ := info_parts infoE
  obtain ⟨hm1, hm2⟩ := hm
  have hmU : U most := by unfold U; omega
  have hOk := hS.2.1
  have HS := Lib.hid hS
  have hmax := hS.1
  rw [maxLen_lit] at hmax
  by_cases h40 : len ≤ 40
  · have hl : ¬ (40 : Int) < (len : Int) := by omega
    have en : min len 40 = len := by omega
    have hUL := evs_UL hOk (Nat.le_refl _) h40
    have hlen := evs_length Z len
    have hget := fun k hk => evs_getD Z len k hk
    have hWb := fun k hk => evW_le (k := k) hOk hk
    have hAb := fun k hk => evAt_le hOk k hk
    have hMono := fun k hk => evAt_mono hOk (k + 1) k (by omega) hk
    have hRise := evs_rises hOk
    obtain ⟨L, eL⟩ : ∃ L, evs Z len = L := ⟨_, rfl⟩
    rw [eL] at hUL hlen hget hRise
    have HG := Lib.hid hget
    have HW := Lib.hid hWb
    have HAb := Lib.hid hAb
    have HMono := Lib.hid hMono
    have HRise := Lib.hid hRise
    have HUL := Lib.hid hUL
    have HLen := Lib.hid hlen
    have HEv := Lib.hid (And.intro en eL)
    have HMU := Lib.hid hmU
    clear hS hOk hUL hlen hget hWb hAb eL en hMono hRise
    go_enter Try.func4, Try.ntmps4
    go_wp2_with fail
    refine (eEvents a len cap Z _ HS.out).mono ?_
    rw [HEv.out.1, HEv.out.2]
    rintro e1 w1 ⟨v1, rfl, ho1, hx1⟩
    obtain ⟨a1, c1, rfl, hi1, -⟩ := ho1.ev HUL.out
    rw [HLen.out] at hi1 ⊢
    have H1 := Lib.hid hi1
    clear hi1 ho1
    go_wp2
    go_loopw [6, 9] (fun l i wr => ∃ k : Nat, k ≤ len ∧ i = .int .i64 k ∧ Ext w1 wr ∧ ∃ H A B, OwnEv wr w1.heap.size l H ∧ Hid (Mt H A B most (evAt Z k) ∧ H.length ≤ k) ∧
      wr.cell? ⟨w1.heap.size, 0, none⟩ = some (.int .u8 3) ∧ wr.cell? ⟨w1.heap.size, 1, none⟩ = some (.int .u64 A) ∧ wr.cell? ⟨w1.heap.size, 2, none⟩ = some (.int .u64 B) ∧
      wr.frozen? ⟨w1.heap.size, 0, none⟩ = false ∧ wr.frozen? ⟨w1.heap.size, 1, none⟩ = false ∧ wr.frozen? ⟨w1.heap.size, 2, none⟩ = false) (fun _ i _ => len - (intOf i).toNat)
    case atStart =>
      exact ⟨0, by omega, rfl, by repeat (first | exact Ext.refl _ | assumption | apply Ext.drew | apply Ext.alloc | (refine Ext.setCell ?_ (by simp <;> omega) _) | refine Ext.trans ?_ (by assumption)), [], 0, 0, OwnEv.nil _ _, Lib.hid ⟨Mt.start _, Nat.le_refl _⟩, by go_simp, by go_simp, by go_simp, by go_simp, by go_simp, by go_simp⟩
    case round =>
      obtain ⟨k, hk, rfl, hx, H, A, B, hown, hMt, m0, m1, m2, f0, f1, f2⟩ := hrel
      by_cases hlt : k < len
      · obtain ⟨b, off, rfl, hc⟩ := H1.out.at (by omega)
        have c0 := (hc k hlt).1
        have c1 := (hc k hlt).2
        rw [HG.out k hlt] at c0 c1
        dsimp only at c0 c1
        have hw := HW.out k hlt
        have hab := HAb.out (k + 1) (by omega)
        have hmono := HMono.out k (by omega)
        obtain ⟨t, et⟩ : ∃ T, evAt Z (k + 1) = T := ⟨_, rfl⟩
        obtain ⟨V, eV⟩ : ∃ V, evW Z k = V := ⟨_, rfl⟩
        rw [et] at c0 hab hmono
        rw [eV] at hw c1
        have hstep := hMt.out.1.step (t := t) (w := V) (by have := hMt.out.2; omega) hmono hm1 (by omega) (by omega)
        have hUH : UL H := hMt.out.1.sm.UL
        have hUA : U A := ⟨hMt.out.1.a0, hMt.out.1.a1⟩
        have hUB : U B := by have := hMt.out.1.b0; have := hMt.out.1.b1; have := HAb.out k hk; unfold U; omega
        have htU : U t := by unfold U; omega
        have hVU : U V := by unfold U; omega
        obtain ⟨a2, c2, hv2, hi2, -⟩ := hown.ev hUH
        subst hv2
        have hHl : H.length ≤ 40 := by have := hMt.out.2; omega
        obtain ⟨hs1, hs2⟩ := hstep
        have hD := fun (w' : World) (hz : Ext wr w') => pDecide a2 H.length c2 H t most V htU HMU.out hVU w' (hi2.below hz) (by omega)
        have hR := fun (w' : World) => r4Decide 3 A B t most V hUA hUB htU HMU.out hVU w'
        obtain ⟨K', eK'⟩ : ∃ x, lK 3 A B t most V = x := ⟨_, rfl⟩
        have hK3 : K' = 3 := by rw [← eK']; unfold lK; split <;> rfl
        subst hK3
        obtain ⟨A', eA'⟩ : ∃ x, lA A B t most V = x := ⟨_, rfl⟩
        obtain ⟨B', eB'⟩ : ∃ x, lB A B t most V = x := ⟨_, rfl⟩
        obtain ⟨q, eq⟩ : ∃ x, lok A B t most V = x := ⟨_, rfl⟩
        rw [hs1] at hD
        rw [eq] at hD hs2 hR
        rw [eK', eA', eB'] at hR
        rw [eA', eB'] at hs2
        obtain ⟨H', eH'⟩ : ∃ x, (if q = true then H ++ [(t, V)] else H) = x := ⟨_, rfl⟩
        rw [eH'] at hD hs2
        have hHl' : H'.length ≤ k + 1 := by have := hMt.out.2; rw [← eH']; split <;> simp <;> omega
        have HMt' := Lib.hid (And.intro hs2 (And.intro hHl' et))
        have HD := Lib.hid hD
        have HR := Lib.hid hR
        have HC := Lib.hid (And.intro c0 c1)
        have HM0 := Lib.hid (And.intro m0 (And.intro m1 (And.intro m2 (And.intro f0 (And.intro f1 f2)))))
        have r0 : ∀ w', Ext wr w' → w'.cell? ⟨b, off + k * 2, none⟩ = some (.int .u64 t) := fun w' hz => (hx.trans hz).reads HC.out.1
        have r1 : ∀ w', Ext wr w' → w'.cell? ⟨b, off + k * 2 + 1, none⟩ = some (.int .u64 V) := fun w' hz => (hx.trans hz).reads HC.out.2
        have r2 : ∀ w', Ext wr w' → w'.cell? ⟨w1.heap.size, 0, none⟩ = some (.int .u8 3) := fun w' hz => hz.reads HM0.out.1
        have r3 : ∀ w', Ext wr w' → w'.cell? ⟨w1.heap.size, 1, none⟩ = some (.int .u64 A) := fun w' hz => hz.reads HM0.out.2.1
        have r4 : ∀ w', Ext wr w' → w'.cell? ⟨w1.heap.size, 2, none⟩ = some (.int .u64 B) := fun w' hz => hz.reads HM0.out.2.2.1
        have hl1 : (k : Int) < (len : Int) := by omega
        clear hc c0 c1 m0 m1 m2 f0 f1 f2 hD hR hown hi2 hs1 hs2 eK' eA' eB' eq eH' et eV hHl hHl' hUH hUA hUB hmono
        go_wp2
        go_region_held3 (Ext wr)
          (first
            | exact Ext.trans (by assumption) hb
            | repeat (first | exact Ext.refl _ | assumption | apply Ext.drew | apply Ext.alloc | (refine Ext.setCell ?_ (by simp <;> omega) _) | refine Ext.trans ?_ (by assumption)))
          ((go_at_call 20; refine (HD.out _ (by assumption)).mono ?_; rintro e w9 ⟨v9, rfl, ho9, hb⟩))
        have hx9 : Ext wr w9 := by repeat (first | exact Ext.refl _ | assumption | apply Ext.drew | apply Ext.alloc | (refine Ext.setCell ?_ (by simp <;> omega) _) | refine Ext.trans ?_ (by assumption))
        have hx19 : Ext w1 w9 := hx.trans hx9
        obtain ⟨a9, c9, rfl, hi9, -⟩ := ho9.ev HMt'.out.1.sm.UL
        have HOB := Lib.hid (show OwnEv w9 (w1.heap.size + 1) (.slice a9 H'.length c9) H' from ho9.base (show w1.heap.size < wr.heap.size from World.block_lt_of_cell? wr _ (r2 wr (Ext.refl _))))
        have HI9 := Lib.hid hi9
        have s0 : ∀ w', Ext w9 w' → w'.cell? ⟨b, off + k * 2, none⟩ = some (.int .u64 t) := fun w' hz => r0 w' (hx9.trans hz)
        have s1 : ∀ w', Ext w9 w' → w'.cell? ⟨b, off + k * 2 + 1, none⟩ = some (.int .u64 V) := fun w' hz => r1 w' (hx9.trans hz)
        have s2 : ∀ w', Ext w9 w' → w'.cell? ⟨w1.heap.size, 0, none⟩ = some (.int .u8 3) := fun w' hz => r2 w' (hx9.trans hz)
        have s3 : ∀ w', Ext w9 w' → w'.cell? ⟨w1.heap.size, 1, none⟩ = some (.int .u64 A) := fun w' hz => r3 w' (hx9.trans hz)
        have s4 : ∀ w', Ext w9 w' → w'.cell? ⟨w1.heap.size, 2, none⟩ = some (.int .u64 B) := fun w' hz => r4 w' (hx9.trans hz)
        have HF9 := Lib.hid (And.intro (hx9.free HM0.out.1 HM0.out.2.2.2.1) (And.intro (hx9.free HM0.out.2.1 HM0.out.2.2.2.2.1) (hx9.free HM0.out.2.2.1 HM0.out.2.2.2.2.2)))
        have z0 : ∀ wq, Ext (w9.alloc (.cells #[.int .u8 0, .int .u64 0, .int .u64 0] 34)).drew wq → wq.cell? ⟨w9.heap.size, 0, none⟩ = some (.int .u8 0) := fun wq hz => hz.reads (by go_simp)
        have z1 : ∀ wq, Ext (w9.alloc (.cells #[.int .u8 0, .int .u64 0, .int .u64 0] 34)).drew wq → wq.cell? ⟨w9.heap.size, 1, none⟩ = some (.int .u64 0) := fun wq hz => hz.reads (by go_simp)
        have z2 : ∀ wq, Ext (w9.alloc (.cells #[.int .u8 0, .int .u64 0, .int .u64 0] 34)).drew wq → wq.cell? ⟨w9.heap.size, 2, none⟩ = some (.int .u64 0) := fun wq hz => hz.reads (by go_simp)
        have g0 : ∀ wq, Ext (w9.alloc (.cells #[.int .u8 0, .int .u64 0, .int .u64 0] 34)).drew wq → wq.frozen? ⟨w9.heap.size, 0, none⟩ = false := fun wq hz => hz.free (v := .int .u8 0) (by go_simp) (by go_simp)
        have g1 : ∀ wq, Ext (w9.alloc (.cells #[.int .u8 0, .int .u64 0, .int .u64 0] 34)).drew wq → wq.frozen? ⟨w9.heap.size, 1, none⟩ = false := fun wq hz => hz.free (v := .int .u64 0) (by go_simp) (by go_simp)
        have g2 : ∀ wq, Ext (w9.alloc (.cells #[.int .u8 0, .int .u64 0, .int .u64 0] 34)).drew wq → wq.frozen? ⟨w9.heap.size, 2, none⟩ = false := fun wq hz => hz.free (v := .int .u64 0) (by go_simp) (by go_simp)
        clear r0 r1 r2 r3 r4 hb ho9 hi9 hx9
        go_wp2
        go_region_held3 (Ext w9)
          (first
            | exact Ext.trans (by assumption) hb
            | (repeat (first | exact Ext.refl _ | assumption | apply Ext.drew | apply Ext.alloc | (refine Ext.setCell ?_ (Nat.le_refl _) _) | (refine Ext.setCell ?_ (Ext.size (by assumption)) _) | refine Ext.trans ?_ (by assumption))))
          ((go_at_call 21; refine (HR.out _).mono ?_; rintro e w10 ⟨rfl, hb⟩))
        · skip
          obtain ⟨W11, e11, hx11, n0, n1, n2⟩ : ∃ W11, w10.alloc (.cells #[.int .u8 3, .int .u64 A', .int .u64 B'] 34) = W11 ∧ Ext w9 W11 ∧ W11.cell? ⟨w10.heap.size, 0, none⟩ = some (.int .u8 3) ∧ W11.cell? ⟨w10.heap.size, 1, none⟩ = some (.int .u64 A') ∧ W11.cell? ⟨w10.heap.size, 2, none⟩ = some (.int .u64 B') :=
            ⟨_, rfl, by repeat (first | exact Ext.refl _ | assumption | apply Ext.drew | apply Ext.alloc | (refine Ext.setCell ?_ (by simp <;> omega) _) | refine Ext.trans ?_ (by assumption)), by go_simp, by go_simp, by go_simp⟩
          rw [e11]
          clear e11
          have hx11' : Ext w9 W11 := hx11
          have k0 := s0 W11 hx11
          have k1 := s1 W11 hx11
          have k2 := s2 W11 hx11
          have k3 := s3 W11 hx11
          have k4 := s4 W11 hx11
          have k5 := hx11.free (s2 w9 (Ext.refl _)) HF9.out.1
          have k6 := hx11.free (s3 w9 (Ext.refl _)) HF9.out.2.1
          have k7 := hx11.free (s4 w9 (Ext.refl _)) HF9.out.2.2
          clear s0 s1 s2 s3 s4 z0 z1 z2 g0 g1 g2
          obtain ⟨W13, e13, y0, y1, y2, y3, y4, y5, hx13, hox⟩ : ∃ W13, ((W11.setCell ⟨w1.heap.size, 0, none⟩ (.int .u8 3)).setCell ⟨w1.heap.size, 1, none⟩ (.int .u64 A')).setCell ⟨w1.heap.size, 2, none⟩ (.int .u64 B') = W13 ∧
              W13.cell? ⟨w1.heap.size, 0, none⟩ = some (.int .u8 3) ∧ W13.cell? ⟨w1.heap.size, 1, none⟩ = some (.int .u64 A') ∧ W13.cell? ⟨w1.heap.size, 2, none⟩ = some (.int .u64 B') ∧
              W13.frozen? ⟨w1.heap.size, 0, none⟩ = false ∧ W13.frozen? ⟨w1.heap.size, 1, none⟩ = false ∧ W13.frozen? ⟨w1.heap.size, 2, none⟩ = false ∧ Ext w1 W13 ∧ OwnEv W13 (w1.heap.size + 1) (.slice a9 H'.length c9) H' := by
            refine ⟨_, rfl, by go_simp, by go_simp, by go_simp, by go_simp, by go_simp, by go_simp, ?_, ?_⟩
            · exact (((hx19.trans hx11).setCell (Nat.le_refl _) _).setCell (Nat.le_refl _) _).setCell (Nat.le_refl _) _
            · exact (((HOB.out.ext hx11).setCell _ _ (Nat.lt_succ_self _)).setCell _ _ (Nat.lt_succ_self _)).setCell _ _ (Nat.lt_succ_self _)
          have HE13 := Lib.hid e13
          have HX := Lib.hid (And.intro hx13 hox)
          clear e13 hx13 hox
          go_wp2
          rw [HE13.out]
          have hI13 := HX.out.2.ev' HMt'.out.1.sm.UL
          have FV := HMt'.out.1.same t (Int.le_refl _)
          have hUA' : U A' := ⟨HMt'.out.1.a0, HMt'.out.1.a1⟩
          have hUB' : U B' := by have := HMt'.out.1.b0; have := HMt'.out.1.b1; have := htU.hi; unfold U; omega
          obtain ⟨F, eF⟩ : ∃ F, lfill A' B' t = F := ⟨_, rfl⟩
          have hP := fun (w' : World) (hz : Ext W13 w') => pFill a9 H'.length c9 H' t htU w' (hI13.below hz)
          have hQ := fun (w' : World) => r4Fill 3 A' B' t hUA' hUB' htU w'
          have hV := fun (w' : World) (hz : Ext W13 w') => pConforms a9 H'.length c9 H' most HMU.out w' (hI13.below hz)
          rw [FV, eF] at hP
          rw [eF] at hQ
          rw [HMt'.out.1.conf] at hV
          have HP := Lib.hid hP
          have HQ := Lib.hid hQ
          have HV := Lib.hid hV
          have HY := Lib.hid (And.intro y0 (And.intro y1 (And.intro y2 (And.intro y3 (And.intro y4 y5)))))
          have t0 : ∀ w', Ext W13 w' → w'.cell? ⟨b, off + k * 2, none⟩ = some (.int .u64 t) := fun w' hz => (HX.out.1.trans hz).reads HC.out.1
          have t1 : ∀ w', Ext W13 w' → w'.cell? ⟨b, off + k * 2 + 1, none⟩ = some (.int .u64 V) := fun w' hz => (HX.out.1.trans hz).reads HC.out.2
          have t2 : ∀ w', Ext W13 w' → w'.cell? ⟨w1.heap.size, 0, none⟩ = some (.int .u8 3) := fun w' hz => hz.reads HY.out.1
          have t3 : ∀ w', Ext W13 w' → w'.cell? ⟨w1.heap.size, 1, none⟩ = some (.int .u64 A') := fun w' hz => hz.reads HY.out.2.1
          have t4 : ∀ w', Ext W13 w' → w'.cell? ⟨w1.heap.size, 2, none⟩ = some (.int .u64 B') := fun w' hz => hz.reads HY.out.2.2.1
          clear hI13 FV eF hP hQ hV y0 y1 y2 y3 y4 y5 k0 k1 k2 k3 k4 k5 k6 k7 n0 n1 n2 hUA' hUB' hb
          go_region_held3 (Ext W13)
            (first
              | exact Ext.trans (by assumption) hb
              | repeat (first | exact Ext.refl _ | assumption | apply Ext.drew | apply Ext.alloc | (refine Ext.setCell ?_ (by simp <;> omega) _) | refine Ext.trans ?_ (by assumption)))
            (first
              | (go_at_call 22; refine (HP.out _ (by assumption)).mono ?_; rintro e w14 ⟨rfl, hb⟩)
              | (go_at_call 23; refine (HQ.out _).mono ?_; rintro e w15 ⟨rfl, hb⟩)
              | (go_at_call 24; refine (HV.out _ (by assumption)).mono ?_; rintro e w16 ⟨rfl, hb⟩))
          clear t0 t1 t2 t3 t4
          have hx16 : Ext W13 w16 := by assumption
          go_wp2
          go_roundw
          case rel => exact ⟨k + 1, by omega, by simp, HX.out.1.trans hx16, H', A', B', (HX.out.2.ext hx16).base (Nat.le_succ _), Lib.hid ⟨by rw [HMt'.out.2.2]; exact HMt'.out.1, HMt'.out.2.1⟩, hx16.reads HY.out.1, hx16.reads HY.out.2.1, hx16.reads HY.out.2.2.1, hx16.free HY.out.1 HY.out.2.2.2.1, hx16.free HY.out.2.1 HY.out.2.2.2.2.1, hx16.free HY.out.2.2.1 HY.out.2.2.2.2.2⟩
          case measure => simp [intOf]; omega
        · skip
          have zz0 := z0 _ hb
          have zz1 := z1 _ hb
          have zz2 := z2 _ hb
          obtain ⟨W11, e11, hx11, n0, n1, n2⟩ : ∃ W11, ((w10.setCell ⟨w9.heap.size, 0, none⟩ (.int .u8 3)).setCell ⟨w9.heap.size, 1, none⟩ (.int .u64 A')).setCell ⟨w9.heap.size, 2, none⟩ (.int .u64 B') = W11 ∧ Ext w9 W11 ∧ W11.cell? ⟨w9.heap.size, 0, none⟩ = some (.int .u8 3) ∧ W11.cell? ⟨w9.heap.size, 1, none⟩ = some (.int .u64 A') ∧ W11.cell? ⟨w9.heap.size, 2, none⟩ = some (.int .u64 B') := by
            refine ⟨_, rfl, ?_, by go_simp, by go_simp, by go_simp⟩
            have hq : Ext w9 w10 := by repeat (first | exact Ext.refl _ | assumption | apply Ext.drew | apply Ext.alloc | (refine Ext.setCell ?_ (by simp <;> omega) _) | refine Ext.trans ?_ (by assumption))
            exact ((hq.setCell (Nat.le_refl _) _).setCell (Nat.le_refl _) _).setCell (Nat.le_refl _) _
          rw [e11]
          clear e11 zz0 zz1 zz2
          have hx11' : Ext w9 W11 := hx11
          have k0 := s0 W11 hx11
          have k1 := s1 W11 hx11
          have k2 := s2 W11 hx11
          have k3 := s3 W11 hx11
          have k4 := s4 W11 hx11
          have k5 := hx11.free (s2 w9 (Ext.refl _)) HF9.out.1
          have k6 := hx11.free (s3 w9 (Ext.refl _)) HF9.out.2.1
          have k7 := hx11.free (s4 w9 (Ext.refl _)) HF9.out.2.2
          clear s0 s1 s2 s3 s4 z0 z1 z2 g0 g1 g2
          obtain ⟨W13, e13, y0, y1, y2, y3, y4, y5, hx13, hox⟩ : ∃ W13, ((W11.setCell ⟨w1.heap.size, 0, none⟩ (.int .u8 3)).setCell ⟨w1.heap.size, 1, none⟩ (.int .u64 A')).setCell ⟨w1.heap.size, 2, none⟩ (.int .u64 B') = W13 ∧
              W13.cell? ⟨w1.heap.size, 0, none⟩ = some (.int .u8 3) ∧ W13.cell? ⟨w1.heap.size, 1, none⟩ = some (.int .u64 A') ∧ W13.cell? ⟨w1.heap.size, 2, none⟩ = some (.int .u64 B') ∧
              W13.frozen? ⟨w1.heap.size, 0, none⟩ = false ∧ W13.frozen? ⟨w1.heap.size, 1, none⟩ = false ∧ W13.frozen? ⟨w1.heap.size, 2, none⟩ = false ∧ Ext w1 W13 ∧ OwnEv W13 (w1.heap.size + 1) (.slice a9 H'.length c9) H' := by
            refine ⟨_, rfl, by go_simp, by go_simp, by go_simp, by go_simp, by go_simp, by go_simp, ?_, ?_⟩
            · exact (((hx19.trans hx11).setCell (Nat.le_refl _) _).setCell (Nat.le_refl _) _).setCell (Nat.le_refl _) _
            · exact (((HOB.out.ext hx11).setCell _ _ (Nat.lt_succ_self _)).setCell _ _ (Nat.lt_succ_self _)).setCell _ _ (Nat.lt_succ_self _)
          have HE13 := Lib.hid e13
          have HX := Lib.hid (And.intro hx13 hox)
          clear e13 hx13 hox
          go_wp2
          rw [HE13.out]
          have hI13 := HX.out.2.ev' HMt'.out.1.sm.UL
          have FV := HMt'.out.1.same t (Int.le_refl _)
          have hUA' : U A' := ⟨HMt'.out.1.a0, HMt'.out.1.a1⟩
          have hUB' : U B' := by have := HMt'.out.1.b0; have := HMt'.out.1.b1; have := htU.hi; unfold U; omega
          obtain ⟨F, eF⟩ : ∃ F, lfill A' B' t = F := ⟨_, rfl⟩
          have hP := fun (w' : World) (hz : Ext W13 w') => pFill a9 H'.length c9 H' t htU w' (hI13.below hz)
          have hQ := fun (w' : World) => r4Fill 3 A' B' t hUA' hUB' htU w'
          have hV := fun (w' : World) (hz : Ext W13 w') => pConforms a9 H'.length c9 H' most HMU.out w' (hI13.below hz)
          rw [FV, eF] at hP
          rw [eF] at hQ
          rw [HMt'.out.1.conf] at hV
          have HP := Lib.hid hP
          have HQ := Lib.hid hQ
          have HV := Lib.hid hV
          have HY := Lib.hid (And.intro y0 (And.intro y1 (And.intro y2 (And.intro y3 (And.intro y4 y5)))))
          have t0 : ∀ w', Ext W13 w' → w'.cell? ⟨b, off + k * 2, none⟩ = some (.int .u64 t) := fun w' hz => (HX.out.1.trans hz).reads HC.out.1
          have t1 : ∀ w', Ext W13 w' → w'.cell? ⟨b, off + k * 2 + 1, none⟩ = some (.int .u64 V) := fun w' hz => (HX.out.1.trans hz).reads HC.out.2
          have t2 : ∀ w', Ext W13 w' → w'.cell? ⟨w1.heap.size, 0, none⟩ = some (.int .u8 3) := fun w' hz => hz.reads HY.out.1
          have t3 : ∀ w', Ext W13 w' → w'.cell? ⟨w1.heap.size, 1, none⟩ = some (.int .u64 A') := fun w' hz => hz.reads HY.out.2.1
          have t4 : ∀ w', Ext W13 w' → w'.cell? ⟨w1.heap.size, 2, none⟩ = some (.int .u64 B') := fun w' hz => hz.reads HY.out.2.2.1
          clear hI13 FV eF hP hQ hV y0 y1 y2 y3 y4 y5 k0 k1 k2 k3 k4 k5 k6 k7 n0 n1 n2 hUA' hUB' hb
          go_region_held3 (Ext W13)
            (first
              | exact Ext.trans (by assumption) hb
              | repeat (first | exact Ext.refl _ | assumption | apply Ext.drew | apply Ext.alloc | (refine Ext.setCell ?_ (by simp <;> omega) _) | refine Ext.trans ?_ (by assumption)))
            (first
              | (go_at_call 22; refine (HP.out _ (by assumption)).mono ?_; rintro e w14 ⟨rfl, hb⟩)
              | (go_at_call 23; refine (HQ.out _).mono ?_; rintro e w15 ⟨rfl, hb⟩)
              | (go_at_call 24; refine (HV.out _ (by assumption)).mono ?_; rintro e w16 ⟨rfl, hb⟩))
          clear t0 t1 t2 t3 t4
          have hx16 : Ext W13 w16 := by assumption
          go_wp2
          go_roundw
          case rel => exact ⟨k + 1, by omega, by simp, HX.out.1.trans hx16, H', A', B', (HX.out.2.ext hx16).base (Nat.le_succ _), Lib.hid ⟨by rw [HMt'.out.2.2]; exact HMt'.out.1, HMt'.out.2.1⟩, hx16.reads HY.out.1, hx16.reads HY.out.2.1, hx16.reads HY.out.2.2.1, hx16.free HY.out.1 HY.out.2.2.2.1, hx16.free HY.out.2.1 HY.out.2.2.2.2.1, hx16.free HY.out.2.2.1 HY.out.2.2.2.2.2⟩
          case measure => simp [intOf]; omega
      · obtain rfl : k = len := by omega
        have hl1 : ¬ (k : Int) < (k : Int) := by omega
        have hUH : UL H := hMt.out.1.sm.UL
        obtain ⟨a2, c2, hv2, hi2, -⟩ := hown.ev hUH
        subst hv2
        have hR1 := fun (w' : World) (hz : Ext wr w') => pRises a2 H.length c2 H w' (hi2.below hz)
        have hR2 := fun (w' : World) (hz : Ext w1 w') => pRises a1 k c1 L w' (H1.out.below hz)
        rw [hMt.out.1.rise] at hR1
        rw [HRise.out] at hR2
        have HR1 := Lib.hid hR1
        have HR2 := Lib.hid hR2
        clear hR1 hR2 hi2 hown hUH m0 m1 m2 f0 f1 f2
        go_wp2_with fail
        refine (pKnown _).mono ?_
        rintro e w2 ⟨rfl, hx2⟩
        go_wp2_with fail
        refine (HR1.out _ hx2).mono ?_
        rintro e w3 ⟨rfl, hx3⟩
        go_wp2_with fail
        refine (HR2.out _ ((hx.trans hx2).trans hx3)).mono ?_
        rintro e w4 ⟨rfl, hx4⟩
        go_wp2
        go_ret
        exact ⟨rfl, by repeat (first | exact Ext.refl _ | assumption | apply Ext.drew | apply Ext.alloc | (refine Ext.setCell ?_ (by simp <;> omega) _) | refine Ext.trans ?_ (by assumption))⟩
  · have hl : (40 : Int) < (len : Int) := by omega
    go_enter Try.func4, Try.ntmps4
    go_wp2_with fail
    refine (pKnown _).mono ?_
    rintro e w1 ⟨rfl, hx1⟩
    go_wp2
    go_ret
    exact ⟨rfl, by repeat (first | exact Ext.refl _ | assumption | apply Ext.drew | apply Ext.alloc | (refine Ext.setCell ?_ (by simp <;> omega) _) | refine Ext.trans ?_ (by assumption))⟩

end Go.Proofs.Ytfabgfenelaheaa
