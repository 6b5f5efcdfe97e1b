/- Rules sorted in place, by the library: the stable sort. -/
import Derived.Test.YtdgcgpapcbjfhaaGreatDoorJ18SrtB
set_option linter.unusedVariables false
set_option linter.unusedSimpArgs false

/- Rules sorted in place, by the library: two rows are merged. -/
namespace Go.Proofs.YtdgcgpapcbjfhaaGreatDoor
open Go.RowKit

theorem rot_id {L : List Rl} {st m en : Nat} (h1 : st ≤ m) (h2 : m ≤ en) (h : m ≤ st ∨ en ≤ m) (x : Nat) : ga L x = rotF L st m en x := by
  unfold rotF
  split
  · congr 1; omega
  · split
    · congr 1; omega
    · rfl

/-- what is known behind the turn -/
structure Sym (L R : List Rl) (a st mid en b : Nat) : Prop where
  mix : Mix L R a b
  s1 : Srtd R a st
  s2 : Srtd R st mid
  s3 : Srtd R mid en
  s4 : Srtd R en b
  cr : ∀ x y, a ≤ x → x < mid → mid ≤ y → y < b → ltA R y x = false
theorem Sym.of {L R : List Rl} {a m b st en mid : Nat} (h1 : a ≤ st) (h2 : st ≤ m) (h3 : m ≤ en) (h4 : en ≤ b) (hm : mid = st + (en - m)) (hl : Srtd L a m) (hr : Srtd L m b)
    (c1 : a < st → en < b → ltA L en (st - 1) = false) (c2 : st < m → m < en → ltA L (en - 1) st = true) (hx : Mix L R a b) (hR : ∀ x, ga R x = rotF L st m en x) : Sym L R a st mid en b := by
  subst hm
  refine ⟨hx, rot_srt1 h1 h2 h3 hl hR, rot_srt2 h2 h3 h4 hr hR, rot_srt3 h1 h2 h3 hl hR, rot_srt4 h2 h3 hr hR, fun x y k1 k2 k3 k4 => ?_⟩
  unfold ltA
  rw [hR, hR]
  exact sym_cut h1 h2 h3 h4 hl hr c1 c2 x y k1 k2 k3 k4
/-- the first half is in order -/
structure Sym2 (L R : List Rl) (a mid en b : Nat) : Prop where
  mix : Mix L R a b
  s1 : Srtd R a mid
  s3 : Srtd R mid en
  s4 : Srtd R en b
  cr : ∀ x y, a ≤ x → x < mid → mid ≤ y → y < b → ltA R y x = false
theorem Sym.two {L R R' : List Rl} {a st mid en b : Nat} (h : Sym L R a st mid en b) (hm : Mix R R' a mid) (hs : Srtd R' a mid) (h1 : mid ≤ en) (h2 : en ≤ b) : Sym2 L R' a mid en b :=
  ⟨h.mix.trans (hm.mono (Nat.le_refl _) (by omega)), hs, hm.srt h.s3 (.inr (Nat.le_refl _)), hm.srt h.s4 (.inr h1), hm.apart (.inl ⟨Nat.le_refl _, Nat.le_refl _⟩) h.cr⟩
theorem Sym.skip {L R : List Rl} {a st mid en b : Nat} (h : Sym L R a st mid en b) (hd : st ≤ a ∨ mid ≤ st) : Sym2 L R a mid en b :=
  ⟨h.mix, by
    rcases hd with hd | hd
    · exact h.s2.mono hd (Nat.le_refl _)
    · exact h.s1.mono (Nat.le_refl _) hd, h.s3, h.s4, h.cr⟩
theorem Sym2.done {L R R' : List Rl} {a mid en b : Nat} (h : Sym2 L R a mid en b) (hm : Mix R R' mid b) (hs : Srtd R' mid b) (h1 : a ≤ mid) (h2 : mid ≤ b) : Mix L R' a b ∧ Srtd R' a b :=
  ⟨h.mix.trans (hm.mono h1 (Nat.le_refl _)), sym_join (hm.srt h.s1 (.inl (Nat.le_refl _))) hs (hm.apart (.inr ⟨Nat.le_refl _, Nat.le_refl _⟩) h.cr)⟩
theorem Sym2.skip {L R : List Rl} {a mid en b : Nat} (h : Sym2 L R a mid en b) (hd : en ≤ mid ∨ b ≤ en) : Mix L R a b ∧ Srtd R a b :=
  ⟨h.mix, sym_join h.s1 (by
    rcases hd with hd | hd
    · exact h.s4.mono hd (Nat.le_refl _)
    · exact h.s3.mono (Nat.le_refl _) hd) h.cr⟩

/-- the merging of rules, as it is handed on -/
def symOk (g cp n a m b : Nat) : Prop := ∀ (L : List Rl) (w : World), Srtd L a m → Srtd L m b → InA w g cp n L →
    Calls Tryz.prog 119 #[.slice (some ⟨g, 0, none⟩) n cp, .int .i64 a, .int .i64 m, .int .i64 b, .func (.func 61) #[] #[]] w fun e w' =>
      e = .returned (.tuple #[]) ∧ ∃ R, InA w' g cp n R ∧ Mix L R a b ∧ Srtd R a b ∧ But (fun x => x = g) w w'

set_option maxRecDepth 100000 in
set_option maxHeartbeats 6400000 in
theorem pSymC (g cp n a m b : Nat) (ham : a + 1 < m) (hmb : m + 1 < b) (hbn : b ≤ n) (hn : n ≤ 1000) (ih : ∀ a' m' b', a' < m' → m' < b' → b' ≤ n → b' - a' < b - a → symOk g cp n a' m' b') : symOk g cp n a m b := by
  intro L w hsl hsr h
  have hH := Lib.hid h
  have hS := Lib.hid hsl
  have hS2 := Lib.hid hsr
  have iH := Lib.hid ih
  clear h hsl hsr ih
  have he : ((m : Int) - (a : Int) == 1) = false := beq_eq_false_iff_ne.2 (by omega)
  have he2 : ((b : Int) - (m : Int) == 1) = false := beq_eq_false_iff_ne.2 (by omega)
  obtain ⟨mid, hmid, hm1, hm2⟩ : ∃ q : Nat, ((a : Int) + (b : Int)) / 2 = (q : Int) ∧ a < q ∧ q < b := ⟨(a + b) / 2, by omega, by omega, by omega⟩
  have hm3 : a + b ≤ 2 * mid + 1 := by omega
  have hm4 : 2 * mid ≤ a + b := by omega
  obtain ⟨pp, hpp⟩ : ∃ q : Nat, (mid : Int) + (m : Int) - 1 = (q : Int) := ⟨mid + m - 1, by omega⟩
  by_cases hcase : mid < m
  · go_enter Tryz.func119, Tryz.ntmps119
    go_wp2
    go_loopw [20, 21] (fun iv jv wr => ∃ (st r : Nat), iv = .int .i64 st ∧ jv = .int .i64 r ∧ (mid + m - b) ≤ st ∧ st ≤ r ∧ r ≤ mid ∧ Hid (((mid + m - b) < st → ltA L (mid + m - st) (st - 1) = false) ∧ (r < mid → ltA L (mid + m - 1 - r) r = true)) ∧ Ext w wr) (fun iv jv _ => (intOf jv).toNat - (intOf iv).toNat)
    case atStart => exact ⟨(mid + m - b), mid, by go_num, rfl, Nat.le_refl _, by omega, Nat.le_refl _, Lib.hid ⟨fun h => by omega, fun h => by omega⟩, Ext.refl _⟩
    case round =>
      obtain ⟨st, r, rfl, rfl, hi, hij, hj, hI, hx⟩ := hrel
      have hK := hH.out.ext hx
      by_cases hlt : st < r
      · obtain ⟨q, hq, hq1, hq2⟩ : ∃ q : Nat, ((st : Int) + (r : Int)) / 2 = (q : Int) ∧ st ≤ q ∧ q < r := ⟨(st + r) / 2, by omega, by omega, by omega⟩
        obtain ⟨P, hP, hP1⟩ : ∃ P : Nat, P = mid + m - 1 - q ∧ P < n := ⟨_, rfl, by omega⟩
        have hP3 : IntKind.i64.wrap ((pp : Int) - (q : Int)) = (P : Int) := by rw [IntKind.wrap_i64]; omega
        obtain ⟨ia0, ia1, ia2, ia3⟩ := hK.reads (i := P) (by omega)
        obtain ⟨ib0, ib1, ib2, ib3⟩ := hK.reads (i := q) (by omega)
        have hC := pCmp (ga L P) (ga L q)
        unfold rlV at hC
        have hlen := hK.lt
        have hz1 : (0 : Int) ≤ (q : Int) := by omega
        have hz2 : (q : Int) < (n : Int) := by omega
        have hz3 : (0 : Int) ≤ (P : Int) := by omega
        have hz4 : (P : Int) < (n : Int) := by omega
        cases hlt2 : ltA L P q with
        | true =>
          have hc := cmpI_lt hlt2
          have hN : Hid (((mid + m - b) < st → ltA L (mid + m - st) (st - 1) = false) ∧ (q < mid → ltA L (mid + m - 1 - q) q = true)) := Lib.hid ⟨hI.out.1, fun _ => by rw [← hP]; exact hlt2⟩
          clear hI hK hP
          generalize cmpI (ga L P).pre (ga L q).pre = c at *
          have hd : decide (c < 0) = true := by simp; omega
          go_wp2
          go_region_held3 (Ext wr) (first | exact Ext.trans (by assumption) hb | repeat (first | exact Ext.refl _ | assumption | apply Ext.drew | apply Ext.alloc | (refine Ext.setCell ?_ (by simp <;> omega) _) | refine Ext.trans ?_ (by assumption))) ((go_at_call 61; refine (hC _).mono ?_; rintro e w9 ⟨rfl, hb⟩))
          all_goals
            have hx9 : Ext w w9 := Ext.trans hx (by assumption)
            clear ia0 ia1 ia2 ia3 ib0 ib1 ib2 ib3
            go_wp2
            go_roundw
            case rel => exact ⟨st, q, rfl, by go_num, hi, by omega, by omega, hN, hx9⟩
            case measure => (simp [intOf]) <;> omega
        | false =>
          have hc := cmpI_ge hlt2
          have hN : Hid (((mid + m - b) < q + 1 → ltA L (mid + m - (q + 1)) (q + 1 - 1) = false) ∧ (r < mid → ltA L (mid + m - 1 - r) r = true)) := Lib.hid ⟨fun _ => by rw [show mid + m - (q + 1) = P by omega]; exact hlt2, hI.out.2⟩
          clear hI hK hP
          generalize cmpI (ga L P).pre (ga L q).pre = c at *
          have hd : decide (c < 0) = false := by simp; omega
          go_wp2
          go_region_held3 (Ext wr) (first | exact Ext.trans (by assumption) hb | repeat (first | exact Ext.refl _ | assumption | apply Ext.drew | apply Ext.alloc | (refine Ext.setCell ?_ (by simp <;> omega) _) | refine Ext.trans ?_ (by assumption))) ((go_at_call 61; refine (hC _).mono ?_; rintro e w9 ⟨rfl, hb⟩))
          all_goals
            have hx9 : Ext w w9 := Ext.trans hx (by assumption)
            clear ia0 ia1 ia2 ia3 ib0 ib1 ib2 ib3
            go_wp2
            go_roundw
            case rel => exact ⟨q + 1, r, by go_num, rfl, by omega, by omega, hj, hN, hx9⟩
            case measure => (simp [intOf]) <;> omega
      · obtain rfl : st = r := by omega
        obtain ⟨en, hen⟩ : ∃ en : Nat, en = mid + m - st := ⟨_, rfl⟩
        have hen2 : (mid : Int) + (m : Int) - (st : Int) = (en : Int) := by omega
        have ha1 : a ≤ st := by omega
        have ha2 : st ≤ m := by omega
        have ha3 : m ≤ en := by omega
        have ha4 : en ≤ b := by omega
        have ha5 : Hid (mid = st + (en - m)) := Lib.hid (by omega)
        have hc1 : Hid (a < st → en < b → ltA L en (st - 1) = false) := Lib.hid fun k1 k2 => by rw [hen]; exact hI.out.1 (by omega)
        have hc2 : Hid (st < m → m < en → ltA L (en - 1) st = true) := Lib.hid fun k1 k2 => by rw [show en - 1 = mid + m - 1 - st by omega]; exact hI.out.2 (by omega)
        have hB : But (fun x => x = g) w wr := But.of_ext hx
        have hKH := Lib.hid hK
        clear hI hK hx hen
        have hn2 : ¬ st < m ∨ st < m := by omega
        by_cases hr1 : st < m ∧ m < en
        · by_cases hq2 : a < st ∧ st < mid
          · by_cases hq3 : mid < en ∧ en < b
            · have hRt := pRotate g cp n st m en L hr1.1 hr1.2 (by omega) hn wr hKH.out
              have hSy : Hid (∀ R1, Mix L R1 st en → (∀ x, ga R1 x = rotF L st m en x) → Sym L R1 a st mid en b) := Lib.hid fun R1 k2 k3 => Sym.of ha1 ha2 ha3 ha4 ha5.out hS.out hS2.out hc1.out hc2.out (k2.mono ha1 ha4) k3
              clear hc1 hc2
              go_wp2_with (go_at_call 155; refine hRt.mono ?_; rintro e w1 ⟨rfl, R1, k1, k2, k3, k4⟩)
              all_goals
                have hY := Lib.hid (hSy.out R1 k2 k3)
                have hB1 := hB.trans k4
                refine ((iH.out a st mid hq2.1 hq2.2 (by omega) (by omega)) R1 w1 hY.out.s1 hY.out.s2 k1).mono ?_
                rintro e w2 ⟨rfl, R2, k5, k6, k7, k8⟩
                have hY2 := Lib.hid (hY.out.two k6 k7 (by omega) ha4)
                have hB2 := hB1.trans k8
                go_wp2_with fail
                all_goals
                  refine ((iH.out mid en b hq3.1 hq3.2 (by omega) (by omega)) R2 w2 hY2.out.s3 hY2.out.s4 k5).mono ?_
                  rintro e w3 ⟨rfl, R3, k9, k10, k11, k12⟩
                  have hE := hY2.out.done k10 k11 (by omega) (by omega)
                  go_wp2_with fail
                  go_end0
                  exact ⟨rfl, R3, k9, hE.1, hE.2, hB2.trans k12⟩
            · have hRt := pRotate g cp n st m en L hr1.1 hr1.2 (by omega) hn wr hKH.out
              have hSy : Hid (∀ R1, Mix L R1 st en → (∀ x, ga R1 x = rotF L st m en x) → Sym L R1 a st mid en b) := Lib.hid fun R1 k2 k3 => Sym.of ha1 ha2 ha3 ha4 ha5.out hS.out hS2.out hc1.out hc2.out (k2.mono ha1 ha4) k3
              clear hc1 hc2
              go_wp2_with (go_at_call 155; refine hRt.mono ?_; rintro e w1 ⟨rfl, R1, k1, k2, k3, k4⟩)
              all_goals
                have hY := Lib.hid (hSy.out R1 k2 k3)
                have hB1 := hB.trans k4
                refine ((iH.out a st mid hq2.1 hq2.2 (by omega) (by omega)) R1 w1 hY.out.s1 hY.out.s2 k1).mono ?_
                rintro e w2 ⟨rfl, R2, k5, k6, k7, k8⟩
                have hY2 := Lib.hid (hY.out.two k6 k7 (by omega) ha4)
                have hB2 := hB1.trans k8
                go_wp2_with fail
                all_goals
                  have hE := hY2.out.skip (by omega)
                  go_end0
                  exact ⟨rfl, R2, k5, hE.1, hE.2, hB2⟩
          · by_cases hq3 : mid < en ∧ en < b
            · have hRt := pRotate g cp n st m en L hr1.1 hr1.2 (by omega) hn wr hKH.out
              have hSy : Hid (∀ R1, Mix L R1 st en → (∀ x, ga R1 x = rotF L st m en x) → Sym L R1 a st mid en b) := Lib.hid fun R1 k2 k3 => Sym.of ha1 ha2 ha3 ha4 ha5.out hS.out hS2.out hc1.out hc2.out (k2.mono ha1 ha4) k3
              clear hc1 hc2
              go_wp2_with (go_at_call 155; refine hRt.mono ?_; rintro e w1 ⟨rfl, R1, k1, k2, k3, k4⟩)
              all_goals
                have hY := Lib.hid (hSy.out R1 k2 k3)
                have hB1 := hB.trans k4
                have hY2 := Lib.hid (hY.out.skip (by omega))
                have hB2 := hB1
                have k5 := k1
                refine ((iH.out mid en b hq3.1 hq3.2 (by omega) (by omega)) R1 w1 hY2.out.s3 hY2.out.s4 k5).mono ?_
                rintro e w3 ⟨rfl, R3, k9, k10, k11, k12⟩
                have hE := hY2.out.done k10 k11 (by omega) (by omega)
                go_wp2_with fail
                go_end0
                exact ⟨rfl, R3, k9, hE.1, hE.2, hB2.trans k12⟩
            · have hRt := pRotate g cp n st m en L hr1.1 hr1.2 (by omega) hn wr hKH.out
              have hSy : Hid (∀ R1, Mix L R1 st en → (∀ x, ga R1 x = rotF L st m en x) → Sym L R1 a st mid en b) := Lib.hid fun R1 k2 k3 => Sym.of ha1 ha2 ha3 ha4 ha5.out hS.out hS2.out hc1.out hc2.out (k2.mono ha1 ha4) k3
              clear hc1 hc2
              go_wp2_with (go_at_call 155; refine hRt.mono ?_; rintro e w1 ⟨rfl, R1, k1, k2, k3, k4⟩)
              all_goals
                have hY := Lib.hid (hSy.out R1 k2 k3)
                have hB1 := hB.trans k4
                have hY2 := Lib.hid (hY.out.skip (by omega))
                have hB2 := hB1
                have k5 := k1
                have hE := hY2.out.skip (by omega)
                go_end0
                exact ⟨rfl, R1, k5, hE.1, hE.2, hB2⟩
        · by_cases hq2 : a < st ∧ st < mid
          · by_cases hq3 : mid < en ∧ en < b
            · have hY : Hid (Sym L L a st mid en b) := Lib.hid (Sym.of ha1 ha2 ha3 ha4 ha5.out hS.out hS2.out hc1.out hc2.out (Mix.refl _ _ _) (rot_id ha2 ha3 (by omega)))
              have hB1 := hB
              have k1 := hKH.out
              clear hc1 hc2
              go_wp2_with fail
              all_goals
                refine ((iH.out a st mid hq2.1 hq2.2 (by omega) (by omega)) L wr hY.out.s1 hY.out.s2 k1).mono ?_
                rintro e w2 ⟨rfl, R2, k5, k6, k7, k8⟩
                have hY2 := Lib.hid (hY.out.two k6 k7 (by omega) ha4)
                have hB2 := hB1.trans k8
                go_wp2_with fail
                all_goals
                  refine ((iH.out mid en b hq3.1 hq3.2 (by omega) (by omega)) R2 w2 hY2.out.s3 hY2.out.s4 k5).mono ?_
                  rintro e w3 ⟨rfl, R3, k9, k10, k11, k12⟩
                  have hE := hY2.out.done k10 k11 (by omega) (by omega)
                  go_wp2_with fail
                  go_end0
                  exact ⟨rfl, R3, k9, hE.1, hE.2, hB2.trans k12⟩
            · have hY : Hid (Sym L L a st mid en b) := Lib.hid (Sym.of ha1 ha2 ha3 ha4 ha5.out hS.out hS2.out hc1.out hc2.out (Mix.refl _ _ _) (rot_id ha2 ha3 (by omega)))
              have hB1 := hB
              have k1 := hKH.out
              clear hc1 hc2
              go_wp2_with fail
              all_goals
                refine ((iH.out a st mid hq2.1 hq2.2 (by omega) (by omega)) L wr hY.out.s1 hY.out.s2 k1).mono ?_
                rintro e w2 ⟨rfl, R2, k5, k6, k7, k8⟩
                have hY2 := Lib.hid (hY.out.two k6 k7 (by omega) ha4)
                have hB2 := hB1.trans k8
                go_wp2_with fail
                all_goals
                  have hE := hY2.out.skip (by omega)
                  go_end0
                  exact ⟨rfl, R2, k5, hE.1, hE.2, hB2⟩
          · by_cases hq3 : mid < en ∧ en < b
            · have hY : Hid (Sym L L a st mid en b) := Lib.hid (Sym.of ha1 ha2 ha3 ha4 ha5.out hS.out hS2.out hc1.out hc2.out (Mix.refl _ _ _) (rot_id ha2 ha3 (by omega)))
              have hB1 := hB
              have k1 := hKH.out
              clear hc1 hc2
              go_wp2_with fail
              all_goals
                have hY2 := Lib.hid (hY.out.skip (by omega))
                have hB2 := hB1
                have k5 := k1
                refine ((iH.out mid en b hq3.1 hq3.2 (by omega) (by omega)) L wr hY2.out.s3 hY2.out.s4 k5).mono ?_
                rintro e w3 ⟨rfl, R3, k9, k10, k11, k12⟩
                have hE := hY2.out.done k10 k11 (by omega) (by omega)
                go_wp2_with fail
                go_end0
                exact ⟨rfl, R3, k9, hE.1, hE.2, hB2.trans k12⟩
            · have hY : Hid (Sym L L a st mid en b) := Lib.hid (Sym.of ha1 ha2 ha3 ha4 ha5.out hS.out hS2.out hc1.out hc2.out (Mix.refl _ _ _) (rot_id ha2 ha3 (by omega)))
              have hB1 := hB
              have k1 := hKH.out
              clear hc1 hc2
              go_wp2_with fail
              all_goals
                have hY2 := Lib.hid (hY.out.skip (by omega))
                have hB2 := hB1
                have k5 := k1
                have hE := hY2.out.skip (by omega)
                go_end0
                exact ⟨rfl, L, k5, hE.1, hE.2, hB2⟩
  · go_enter Tryz.func119, Tryz.ntmps119
    go_wp2
    go_loopw [20, 21] (fun iv jv wr => ∃ (st r : Nat), iv = .int .i64 st ∧ jv = .int .i64 r ∧ a ≤ st ∧ st ≤ r ∧ r ≤ m ∧ Hid ((a < st → ltA L (mid + m - st) (st - 1) = false) ∧ (r < m → ltA L (mid + m - 1 - r) r = true)) ∧ Ext w wr) (fun iv jv _ => (intOf jv).toNat - (intOf iv).toNat)
    case atStart => exact ⟨a, m, by go_num, rfl, Nat.le_refl _, by omega, Nat.le_refl _, Lib.hid ⟨fun h => by omega, fun h => by omega⟩, Ext.refl _⟩
    case round =>
      obtain ⟨st, r, rfl, rfl, hi, hij, hj, hI, hx⟩ := hrel
      have hK := hH.out.ext hx
      by_cases hlt : st < r
      · obtain ⟨q, hq, hq1, hq2⟩ : ∃ q : Nat, ((st : Int) + (r : Int)) / 2 = (q : Int) ∧ st ≤ q ∧ q < r := ⟨(st + r) / 2, by omega, by omega, by omega⟩
        obtain ⟨P, hP, hP1⟩ : ∃ P : Nat, P = mid + m - 1 - q ∧ P < n := ⟨_, rfl, by omega⟩
        have hP3 : IntKind.i64.wrap ((pp : Int) - (q : Int)) = (P : Int) := by rw [IntKind.wrap_i64]; omega
        obtain ⟨ia0, ia1, ia2, ia3⟩ := hK.reads (i := P) (by omega)
        obtain ⟨ib0, ib1, ib2, ib3⟩ := hK.reads (i := q) (by omega)
        have hC := pCmp (ga L P) (ga L q)
        unfold rlV at hC
        have hlen := hK.lt
        have hz1 : (0 : Int) ≤ (q : Int) := by omega
        have hz2 : (q : Int) < (n : Int) := by omega
        have hz3 : (0 : Int) ≤ (P : Int) := by omega
        have hz4 : (P : Int) < (n : Int) := by omega
        cases hlt2 : ltA L P q with
        | true =>
          have hc := cmpI_lt hlt2
          have hN : Hid ((a < st → ltA L (mid + m - st) (st - 1) = false) ∧ (q < m → ltA L (mid + m - 1 - q) q = true)) := Lib.hid ⟨hI.out.1, fun _ => by rw [← hP]; exact hlt2⟩
          clear hI hK hP
          generalize cmpI (ga L P).pre (ga L q).pre = c at *
          have hd : decide (c < 0) = true := by simp; omega
          go_wp2
          go_region_held3 (Ext wr) (first | exact Ext.trans (by assumption) hb | repeat (first | exact Ext.refl _ | assumption | apply Ext.drew | apply Ext.alloc | (refine Ext.setCell ?_ (by simp <;> omega) _) | refine Ext.trans ?_ (by assumption))) ((go_at_call 61; refine (hC _).mono ?_; rintro e w9 ⟨rfl, hb⟩))
          all_goals
            have hx9 : Ext w w9 := Ext.trans hx (by assumption)
            clear ia0 ia1 ia2 ia3 ib0 ib1 ib2 ib3
            go_wp2
            go_roundw
            case rel => exact ⟨st, q, rfl, by go_num, hi, by omega, by omega, hN, hx9⟩
            case measure => (simp [intOf]) <;> omega
        | false =>
          have hc := cmpI_ge hlt2
          have hN : Hid ((a < q + 1 → ltA L (mid + m - (q + 1)) (q + 1 - 1) = false) ∧ (r < m → ltA L (mid + m - 1 - r) r = true)) := Lib.hid ⟨fun _ => by rw [show mid + m - (q + 1) = P by omega]; exact hlt2, hI.out.2⟩
          clear hI hK hP
          generalize cmpI (ga L P).pre (ga L q).pre = c at *
          have hd : decide (c < 0) = false := by simp; omega
          go_wp2
          go_region_held3 (Ext wr) (first | exact Ext.trans (by assumption) hb | repeat (first | exact Ext.refl _ | assumption | apply Ext.drew | apply Ext.alloc | (refine Ext.setCell ?_ (by simp <;> omega) _) | refine Ext.trans ?_ (by assumption))) ((go_at_call 61; refine (hC _).mono ?_; rintro e w9 ⟨rfl, hb⟩))
          all_goals
            have hx9 : Ext w w9 := Ext.trans hx (by assumption)
            clear ia0 ia1 ia2 ia3 ib0 ib1 ib2 ib3
            go_wp2
            go_roundw
            case rel => exact ⟨q + 1, r, by go_num, rfl, by omega, by omega, hj, hN, hx9⟩
            case measure => (simp [intOf]) <;> omega
      · obtain rfl : st = r := by omega
        obtain ⟨en, hen⟩ : ∃ en : Nat, en = mid + m - st := ⟨_, rfl⟩
        have hen2 : (mid : Int) + (m : Int) - (st : Int) = (en : Int) := by omega
        have ha1 : a ≤ st := by omega
        have ha2 : st ≤ m := by omega
        have ha3 : m ≤ en := by omega
        have ha4 : en ≤ b := by omega
        have ha5 : Hid (mid = st + (en - m)) := Lib.hid (by omega)
        have hc1 : Hid (a < st → en < b → ltA L en (st - 1) = false) := Lib.hid fun k1 k2 => by rw [hen]; exact hI.out.1 (by omega)
        have hc2 : Hid (st < m → m < en → ltA L (en - 1) st = true) := Lib.hid fun k1 k2 => by rw [show en - 1 = mid + m - 1 - st by omega]; exact hI.out.2 (by omega)
        have hB : But (fun x => x = g) w wr := But.of_ext hx
        have hKH := Lib.hid hK
        clear hI hK hx hen
        have hn2 : ¬ st < m ∨ st < m := by omega
        by_cases hr1 : st < m ∧ m < en
        · by_cases hq2 : a < st ∧ st < mid
          · by_cases hq3 : mid < en ∧ en < b
            · have hRt := pRotate g cp n st m en L hr1.1 hr1.2 (by omega) hn wr hKH.out
              have hSy : Hid (∀ R1, Mix L R1 st en → (∀ x, ga R1 x = rotF L st m en x) → Sym L R1 a st mid en b) := Lib.hid fun R1 k2 k3 => Sym.of ha1 ha2 ha3 ha4 ha5.out hS.out hS2.out hc1.out hc2.out (k2.mono ha1 ha4) k3
              clear hc1 hc2
              go_wp2_with (go_at_call 155; refine hRt.mono ?_; rintro e w1 ⟨rfl, R1, k1, k2, k3, k4⟩)
              all_goals
                have hY := Lib.hid (hSy.out R1 k2 k3)
                have hB1 := hB.trans k4
                refine ((iH.out a st mid hq2.1 hq2.2 (by omega) (by omega)) R1 w1 hY.out.s1 hY.out.s2 k1).mono ?_
                rintro e w2 ⟨rfl, R2, k5, k6, k7, k8⟩
                have hY2 := Lib.hid (hY.out.two k6 k7 (by omega) ha4)
                have hB2 := hB1.trans k8
                go_wp2_with fail
                all_goals
                  refine ((iH.out mid en b hq3.1 hq3.2 (by omega) (by omega)) R2 w2 hY2.out.s3 hY2.out.s4 k5).mono ?_
                  rintro e w3 ⟨rfl, R3, k9, k10, k11, k12⟩
                  have hE := hY2.out.done k10 k11 (by omega) (by omega)
                  go_wp2_with fail
                  go_end0
                  exact ⟨rfl, R3, k9, hE.1, hE.2, hB2.trans k12⟩
            · have hRt := pRotate g cp n st m en L hr1.1 hr1.2 (by omega) hn wr hKH.out
              have hSy : Hid (∀ R1, Mix L R1 st en → (∀ x, ga R1 x = rotF L st m en x) → Sym L R1 a st mid en b) := Lib.hid fun R1 k2 k3 => Sym.of ha1 ha2 ha3 ha4 ha5.out hS.out hS2.out hc1.out hc2.out (k2.mono ha1 ha4) k3
              clear hc1 hc2
              go_wp2_with (go_at_call 155; refine hRt.mono ?_; rintro e w1 ⟨rfl, R1, k1, k2, k3, k4⟩)
              all_goals
                have hY := Lib.hid (hSy.out R1 k2 k3)
                have hB1 := hB.trans k4
                refine ((iH.out a st mid hq2.1 hq2.2 (by omega) (by omega)) R1 w1 hY.out.s1 hY.out.s2 k1).mono ?_
                rintro e w2 ⟨rfl, R2, k5, k6, k7, k8⟩
                have hY2 := Lib.hid (hY.out.two k6 k7 (by omega) ha4)
                have hB2 := hB1.trans k8
                go_wp2_with fail
                all_goals
                  have hE := hY2.out.skip (by omega)
                  go_end0
                  exact ⟨rfl, R2, k5, hE.1, hE.2, hB2⟩
          · by_cases hq3 : mid < en ∧ en < b
            · have hRt := pRotate g cp n st m en L hr1.1 hr1.2 (by omega) hn wr hKH.out
              have hSy : Hid (∀ R1, Mix L R1 st en → (∀ x, ga R1 x = rotF L st m en x) → Sym L R1 a st mid en b) := Lib.hid fun R1 k2 k3 => Sym.of ha1 ha2 ha3 ha4 ha5.out hS.out hS2.out hc1.out hc2.out (k2.mono ha1 ha4) k3
              clear hc1 hc2
              go_wp2_with (go_at_call 155; refine hRt.mono ?_; rintro e w1 ⟨rfl, R1, k1, k2, k3, k4⟩)
              all_goals
                have hY := Lib.hid (hSy.out R1 k2 k3)
                have hB1 := hB.trans k4
                have hY2 := Lib.hid (hY.out.skip (by omega))
                have hB2 := hB1
                have k5 := k1
                refine ((iH.out mid en b hq3.1 hq3.2 (by omega) (by omega)) R1 w1 hY2.out.s3 hY2.out.s4 k5).mono ?_
                rintro e w3 ⟨rfl, R3, k9, k10, k11, k12⟩
                have hE := hY2.out.done k10 k11 (by omega) (by omega)
                go_wp2_with fail
                go_end0
                exact ⟨rfl, R3, k9, hE.1, hE.2, hB2.trans k12⟩
            · have hRt := pRotate g cp n st m en L hr1.1 hr1.2 (by omega) hn wr hKH.out
              have hSy : Hid (∀ R1, Mix L R1 st en → (∀ x, ga R1 x = rotF L st m en x) → Sym L R1 a st mid en b) := Lib.hid fun R1 k2 k3 => Sym.of ha1 ha2 ha3 ha4 ha5.out hS.out hS2.out hc1.out hc2.out (k2.mono ha1 ha4) k3
              clear hc1 hc2
              go_wp2_with (go_at_call 155; refine hRt.mono ?_; rintro e w1 ⟨rfl, R1, k1, k2, k3, k4⟩)
              all_goals
                have hY := Lib.hid (hSy.out R1 k2 k3)
                have hB1 := hB.trans k4
                have hY2 := Lib.hid (hY.out.skip (by omega))
                have hB2 := hB1
                have k5 := k1
                have hE := hY2.out.skip (by omega)
                go_end0
                exact ⟨rfl, R1, k5, hE.1, hE.2, hB2⟩
        · by_cases hq2 : a < st ∧ st < mid
          · by_cases hq3 : mid < en ∧ en < b
            · have hY : Hid (Sym L L a st mid en b) := Lib.hid (Sym.of ha1 ha2 ha3 ha4 ha5.out hS.out hS2.out hc1.out hc2.out (Mix.refl _ _ _) (rot_id ha2 ha3 (by omega)))
              have hB1 := hB
              have k1 := hKH.out
              clear hc1 hc2
              go_wp2_with fail
              all_goals
                refine ((iH.out a st mid hq2.1 hq2.2 (by omega) (by omega)) L wr hY.out.s1 hY.out.s2 k1).mono ?_
                rintro e w2 ⟨rfl, R2, k5, k6, k7, k8⟩
                have hY2 := Lib.hid (hY.out.two k6 k7 (by omega) ha4)
                have hB2 := hB1.trans k8
                go_wp2_with fail
                all_goals
                  refine ((iH.out mid en b hq3.1 hq3.2 (by omega) (by omega)) R2 w2 hY2.out.s3 hY2.out.s4 k5).mono ?_
                  rintro e w3 ⟨rfl, R3, k9, k10, k11, k12⟩
                  have hE := hY2.out.done k10 k11 (by omega) (by omega)
                  go_wp2_with fail
                  go_end0
                  exact ⟨rfl, R3, k9, hE.1, hE.2, hB2.trans k12⟩
            · have hY : Hid (Sym L L a st mid en b) := Lib.hid (Sym.of ha1 ha2 ha3 ha4 ha5.out hS.out hS2.out hc1.out hc2.out (Mix.refl _ _ _) (rot_id ha2 ha3 (by omega)))
              have hB1 := hB
              have k1 := hKH.out
              clear hc1 hc2
              go_wp2_with fail
              all_goals
                refine ((iH.out a st mid hq2.1 hq2.2 (by omega) (by omega)) L wr hY.out.s1 hY.out.s2 k1).mono ?_
                rintro e w2 ⟨rfl, R2, k5, k6, k7, k8⟩
                have hY2 := Lib.hid (hY.out.two k6 k7 (by omega) ha4)
                have hB2 := hB1.trans k8
                go_wp2_with fail
                all_goals
                  have hE := hY2.out.skip (by omega)
                  go_end0
                  exact ⟨rfl, R2, k5, hE.1, hE.2, hB2⟩
          · by_cases hq3 : mid < en ∧ en < b
            · have hY : Hid (Sym L L a st mid en b) := Lib.hid (Sym.of ha1 ha2 ha3 ha4 ha5.out hS.out hS2.out hc1.out hc2.out (Mix.refl _ _ _) (rot_id ha2 ha3 (by omega)))
              have hB1 := hB
              have k1 := hKH.out
              clear hc1 hc2
              go_wp2_with fail
              all_goals
                have hY2 := Lib.hid (hY.out.skip (by omega))
                have hB2 := hB1
                have k5 := k1
                refine ((iH.out mid en b hq3.1 hq3.2 (by omega) (by omega)) L wr hY2.out.s3 hY2.out.s4 k5).mono ?_
                rintro e w3 ⟨rfl, R3, k9, k10, k11, k12⟩
                have hE := hY2.out.done k10 k11 (by omega) (by omega)
                go_wp2_with fail
                go_end0
                exact ⟨rfl, R3, k9, hE.1, hE.2, hB2.trans k12⟩
            · have hY : Hid (Sym L L a st mid en b) := Lib.hid (Sym.of ha1 ha2 ha3 ha4 ha5.out hS.out hS2.out hc1.out hc2.out (Mix.refl _ _ _) (rot_id ha2 ha3 (by omega)))
              have hB1 := hB
              have k1 := hKH.out
              clear hc1 hc2
              go_wp2_with fail
              all_goals
                have hY2 := Lib.hid (hY.out.skip (by omega))
                have hB2 := hB1
                have k5 := k1
                have hE := hY2.out.skip (by omega)
                go_end0
                exact ⟨rfl, L, k5, hE.1, hE.2, hB2⟩

end Go.Proofs.YtdgcgpapcbjfhaaGreatDoor

/- Rules sorted in place, by the library: rows of blocks; any two rows are merged. -/
namespace Go.Proofs.YtdgcgpapcbjfhaaGreatDoor
open Go.RowKit

theorem dvd_step {k x a : Nat} (hx : k ∣ x) (ha : k ∣ a) (h : x < a) : x + k ≤ a := by
  obtain ⟨p, rfl⟩ := hx
  obtain ⟨q, rfl⟩ := ha
  have h1 : p < q := Nat.lt_of_mul_lt_mul_left h
  have h2 := Nat.mul_le_mul_left k (Nat.succ_le_of_lt h1)
  rw [Nat.mul_succ] at h2
  exact h2

/-- whole blocks of k places, up to a place, are each in order -/
def BkTo (L : List Rl) (k a : Nat) : Prop := ∀ x, k ∣ x → x + k ≤ a → Srtd L x (x + k)
/-- blocks of k places, from a place on, are each in order -/
def BkFr (L : List Rl) (k a n : Nat) : Prop := ∀ x, k ∣ x → a ≤ x → x < n → Srtd L x (min (x + k) n)

theorem BkTo.zero (L : List Rl) {k : Nat} (hk : 0 < k) : BkTo L k 0 := fun x _ h => by omega
theorem BkTo.step {L R : List Rl} {k a : Nat} (h : BkTo L k a) (ha : k ∣ a) (hm : Mix L R a (a + k)) (hs : Srtd R a (a + k)) : BkTo R k (a + k) := by
  intro x hx hl
  rcases Nat.lt_trichotomy x a with c | c | c
  · have := dvd_step hx ha c
    exact hm.srt (h x hx this) (.inl this)
  · subst c; exact hs
  · omega
theorem BkTo.done {L R : List Rl} {k a n : Nat} (h : BkTo L k a) (hk : 0 < k) (ha : k ∣ a) (han : a ≤ n) (hn : n < a + k) (hm : Mix L R a n) (hs : Srtd R a n) : BkFr R k 0 n := by
  intro x hx _ hl
  rcases Nat.lt_trichotomy x a with c | c | c
  · have := dvd_step hx ha c
    rw [Nat.min_eq_left (by omega)]
    exact hm.srt (h x hx this) (.inl this)
  · subst c; rw [Nat.min_eq_right (by omega)]; exact hs
  · have := dvd_step ha hx c
    omega
theorem BkFr.at {L : List Rl} {k a n : Nat} (h : BkFr L k a n) (ha : k ∣ a) (hb : a + k ≤ n) (hk : 0 < k) : Srtd L a (a + k) := by
  have := h a ha (Nat.le_refl _) (by omega)
  rwa [Nat.min_eq_left hb] at this
theorem BkFr.next {L : List Rl} {k a n : Nat} (h : BkFr L k a n) (ha : k ∣ a) (hb : a + k + k ≤ n) (hk : 0 < k) : Srtd L (a + k) (a + k + k) := by
  have := h (a + k) (Nat.dvd_add ha (Nat.dvd_refl k)) (by omega) (by omega)
  rwa [Nat.min_eq_left hb] at this
theorem BkFr.last {L : List Rl} {k a n : Nat} (h : BkFr L k a n) (ha : k ∣ a) (hb : a + k < n) (hn : n < a + k + k) : Srtd L (a + k) n := by
  have := h (a + k) (Nat.dvd_add ha (Nat.dvd_refl k)) (by omega) (by omega)
  rwa [Nat.min_eq_right (by omega)] at this
theorem BkFr.all {L : List Rl} {k a n : Nat} (h : BkFr L k a n) (ha : k ∣ a) (hb : n ≤ a + k) : Srtd L a n := by
  by_cases c : a < n
  · have := h a ha (Nat.le_refl _) c
    rwa [Nat.min_eq_right hb] at this
  · exact Srtd.none L (by omega)
theorem BkFr.step {L R : List Rl} {k a b n : Nat} (h : BkFr L k a n) (hm : Mix L R a b) (hab : a ≤ b) : BkFr R k b n := fun x hx hl hn => hm.srt (h x hx (by omega) hn) (.inr hl)

theorem pSym (g cp n : Nat) (hn : n ≤ 1000) : ∀ (d a m b : Nat), b - a = d → a < m → m < b → b ≤ n → symOk g cp n a m b := by
  intro d
  induction d using Nat.strongRecOn with
  | _ d ih =>
    intro a m b hd h1 h2 h3
    by_cases c1 : m = a + 1
    · intro L w hl hr h
      exact pSymA g cp n a m b L c1 h2 h3 hn hr w h
    · by_cases c2 : b = m + 1
      · intro L w hl hr h
        exact pSymB g cp n a m b L (by omega) c2 h3 hn hl w h
      · exact pSymC g cp n a m b (by omega) (by omega) h3 hn fun a' m' b' k1 k2 k3 k4 => ih (b' - a') (by omega) a' m' b' rfl k1 k2 k3

end Go.Proofs.YtdgcgpapcbjfhaaGreatDoor

/- Rules sorted in place, by the library: the stable sort. -/
namespace Go.Proofs.YtdgcgpapcbjfhaaGreatDoor
open Go.RowKit

set_option maxRecDepth 100000 in
set_option maxHeartbeats 3200000 in
theorem pStable (g cp n : Nat) (L : List Rl) (hn : n ≤ 1000) (w : World) (h : InA w g cp n L) :
    Calls Tryz.prog 85 #[.slice (some ⟨g, 0, none⟩) n cp, .int .i64 n, .func (.func 61) #[] #[]] w fun e w' =>
      e = .returned (.tuple #[]) ∧ ∃ R, InA w' g cp n R ∧ Mix L R 0 n ∧ Srtd R 0 n ∧ But (fun x => x = g) w w' := by
  have hH := Lib.hid h
  clear h
  go_enter Tryz.func85, Tryz.ntmps85
  go_wp2
  go_loopw [7, 8] (fun av bv wr => ∃ (i b : Nat) (C : List Rl), av = .int .i64 i ∧ bv = .int .i64 b ∧ i ≤ n ∧ i + 20 ≤ b ∧ b ≤ i + 20 ∧ Hid (20 ∣ i) ∧ Hid (InA wr g cp n C ∧ Mix L C 0 n ∧ BkTo C 20 i) ∧ But (fun x => x = g) w wr) (fun _ bv _ => n + 21 - (intOf bv).toNat)
  case atStart => exact ⟨0, 20, L, rfl, rfl, Nat.zero_le _, Nat.le_refl _, Nat.le_refl _, Lib.hid (Nat.dvd_zero 20), Lib.hid ⟨hH.out, Mix.refl _ _ _, BkTo.zero _ (by decide)⟩, But.refl _ _⟩
  case round =>
    obtain ⟨i, b, C, rfl, rfl, hi, hb1, hb2, hd, hI, hB⟩ := hrel
    by_cases hlt : b ≤ n
    · have hC := pIns g cp n i b C (by omega) hlt hn wr hI.out.1
      go_wp2_with fail
      refine hC.mono ?_
      rintro e w1 ⟨rfl, R, k1, k2, k3, k4⟩
      have hbe : b = i + 20 := by omega
      have k5 : Hid (InA w1 g cp n R ∧ Mix L R 0 n ∧ BkTo R 20 b) := Lib.hid ⟨k1, hI.out.2.1.trans (k2.mono (Nat.zero_le _) hlt), by
        rw [hbe] at k2 k3 ⊢; exact hI.out.2.2.step hd.out k2 k3⟩
      have hd2 : Hid (20 ∣ b) := Lib.hid (by have := hd.out; omega)
      have hB2 := hB.trans k4
      clear hC k1 k2 k3 k4 hI hd hbe hB
      go_wp2
      go_roundw
      case rel => exact ⟨b, b + 20, R, rfl, by go_num, hlt, Nat.le_refl _, Nat.le_refl _, hd2, k5, hB2⟩
      case measure => (simp [intOf]) <;> omega
    · have hC := pIns g cp n i n C hi (Nat.le_refl _) hn wr hI.out.1
      go_wp2_with fail
      refine hC.mono ?_
      rintro e w1 ⟨rfl, R, k1, k2, k3, k4⟩
      have k5 : Hid (InA w1 g cp n R ∧ Mix L R 0 n ∧ BkFr R 20 0 n) := Lib.hid ⟨k1, hI.out.2.1.trans (k2.mono (Nat.zero_le _) (Nat.le_refl _)), hI.out.2.2.done (by decide) hd.out hi (by omega) k2 k3⟩
      have hB2 := hB.trans k4
      clear hC k1 k2 k3 k4 hI hd hB
      go_wp2
      go_loopw [6, 7, 8, 9] (fun kv _ _ _ wr => ∃ (k : Nat) (C : List Rl), kv = .int .i64 k ∧ 0 < k ∧ k ≤ 2000 ∧ Hid (InA wr g cp n C ∧ Mix L C 0 n ∧ BkFr C k 0 n) ∧ But (fun x => x = g) w wr) (fun kv _ _ _ _ => n - (intOf kv).toNat)
      case atStart => exact ⟨20, R, rfl, by decide, by decide, k5, hB2⟩
      case round =>
        obtain ⟨k, C, rfl, hk0, hk1, hI, hB⟩ := hrel
        clear k5 hB2 hlt hb1 hb2 hi
        by_cases hlt : k < n
        · have hdk : Hid (2 * k ∣ 0) := Lib.hid (Nat.dvd_zero _)
          have hJ0 : Hid (InA wr g cp n C ∧ Mix L C 0 n ∧ BkTo C (2 * k) 0 ∧ BkFr C k 0 n) := Lib.hid ⟨hI.out.1, hI.out.2.1, BkTo.zero _ (by omega), hI.out.2.2⟩
          clear hI
          go_wp2
          go_loopw [7, 8] (fun av bv wq => ∃ (a b : Nat) (C : List Rl), av = .int .i64 a ∧ bv = .int .i64 b ∧ a ≤ n ∧ a + 2 * k ≤ b ∧ b ≤ a + 2 * k ∧ Hid (2 * k ∣ a) ∧ Hid (InA wq g cp n C ∧ Mix L C 0 n ∧ BkTo C (2 * k) a ∧ BkFr C k a n) ∧ But (fun x => x = g) w wq) (fun _ bv _ => n + 2 * k + 1 - (intOf bv).toNat)
          case atStart => exact ⟨0, 2 * k, C, rfl, by go_num, Nat.zero_le _, by omega, by omega, hdk, hJ0, hB⟩
          case round =>
            obtain ⟨a, b, D, rfl, rfl, ha, hb1, hb2, hd, hJ, hBq⟩ := hrel
            clear hJ0 hdk hB
            have hka : k ∣ a := by obtain ⟨p, e⟩ := hd.out; exact ⟨2 * p, by rw [e, Nat.mul_comm 2 k, Nat.mul_assoc]⟩
            have hkaH := Lib.hid hka
            clear hka
            by_cases hlt2 : b ≤ n
            · have hC := (pSym g cp n hn (b - a) a (a + k) b rfl (by omega) (by omega) hlt2) D wr (hJ.out.2.2.2.at hkaH.out (by omega) hk0) (by rw [show b = a + k + k by omega]; exact hJ.out.2.2.2.next hkaH.out (by omega) hk0) hJ.out.1
              rw [show ((a + k : Nat) : Int) = (a : Int) + (k : Int) by omega] at hC
              go_wp2_with fail
              refine hC.mono ?_
              rintro e w2 ⟨rfl, R2, m1, m2, m3, m4⟩
              have m5 : Hid (InA w2 g cp n R2 ∧ Mix L R2 0 n ∧ BkTo R2 (2 * k) b ∧ BkFr R2 k b n) := Lib.hid ⟨m1, hJ.out.2.1.trans (m2.mono (Nat.zero_le _) hlt2), by
                have e2 : b = a + 2 * k := by omega
                rw [e2] at m2 m3 ⊢
                exact hJ.out.2.2.1.step hd.out m2 m3, hJ.out.2.2.2.step m2 (by omega)⟩
              have hd2 : Hid (2 * k ∣ b) := Lib.hid (by rw [show b = a + 2 * k by omega]; exact Nat.dvd_add hd.out (Nat.dvd_refl _))
              have hB3 := hBq.trans m4
              clear hC m1 m2 m3 m4 hJ hd hkaH hBq
              go_wp2
              go_roundw
              case rel => exact ⟨b, b + 2 * k, R2, rfl, by go_num, hlt2, by omega, by omega, hd2, m5, hB3⟩
              case measure => (simp [intOf]) <;> omega
            · by_cases hm : a + k < n
              · have hC := (pSym g cp n hn (n - a) a (a + k) n rfl (by omega) hm (Nat.le_refl _)) D wr (hJ.out.2.2.2.at hkaH.out (by omega) hk0) (hJ.out.2.2.2.last hkaH.out hm (by omega)) hJ.out.1
                rw [show ((a + k : Nat) : Int) = (a : Int) + (k : Int) by omega] at hC
                go_wp2_with fail
                refine hC.mono ?_
                rintro e w2 ⟨rfl, R2, m1, m2, m3, m4⟩
                have m5 : Hid (InA w2 g cp n R2 ∧ Mix L R2 0 n ∧ BkFr R2 (k * 2) 0 n) := Lib.hid ⟨m1, hJ.out.2.1.trans (m2.mono (Nat.zero_le _) (Nat.le_refl _)), by
                  rw [Nat.mul_comm]; exact hJ.out.2.2.1.done (by omega) hd.out ha (by omega) m2 m3⟩
                have hB3 := hBq.trans m4
                clear hC m1 m2 m3 m4 hJ hd hkaH hBq
                go_wp2
                go_roundw
                case rel => exact ⟨k * 2, R2, by go_num, by omega, by omega, m5, hB3⟩
                case measure => (simp [intOf]) <;> omega
              · have m5 : Hid (InA wr g cp n D ∧ Mix L D 0 n ∧ BkFr D (k * 2) 0 n) := Lib.hid ⟨hJ.out.1, hJ.out.2.1, by
                  rw [Nat.mul_comm]; exact hJ.out.2.2.1.done (by omega) hd.out ha (by omega) (Mix.refl _ _ _) (hJ.out.2.2.2.all hkaH.out (by omega))⟩
                clear hJ hd hkaH
                go_wp2
                go_roundw
                case rel => exact ⟨k * 2, D, by go_num, by omega, by omega, m5, hBq⟩
                case measure => (simp [intOf]) <;> omega
        · have hR : Hid (InA wr g cp n C ∧ Mix L C 0 n ∧ Srtd C 0 n) := Lib.hid ⟨hI.out.1, hI.out.2.1, hI.out.2.2.all (Nat.dvd_zero _) (by omega)⟩
          clear hI
          go_wp2
          go_end0
          exact ⟨rfl, C, hR.out.1, hR.out.2.1, hR.out.2.2, hB⟩

theorem pSortSt (g cp n : Nat) (L : List Rl) (hn : n ≤ 1000) (w : World) (h : InA w g cp n L) :
    Calls Tryz.prog 60 #[.slice (some ⟨g, 0, none⟩) n cp, .func (.func 61) #[] #[]] w fun e w' =>
      e = .returned (.tuple #[]) ∧ ∃ R, InA w' g cp n R ∧ Mix L R 0 n ∧ Srtd R 0 n ∧ But (fun x => x = g) w w' := by
  have hC := pStable g cp n L hn w h
  clear h
  go_enter Tryz.func60, Tryz.ntmps60
  go_wp2_with fail
  refine hC.mono ?_
  rintro e w1 ⟨rfl, R, k1, k2, k3, k4⟩
  have k5 := Lib.hid (And.intro k1 (And.intro k2 k3))
  clear k1 k2 k3 hC
  go_wp2
  go_end0
  exact ⟨rfl, R, k5.out.1, k5.out.2.1, k5.out.2.2, k4⟩

end Go.Proofs.YtdgcgpapcbjfhaaGreatDoor
