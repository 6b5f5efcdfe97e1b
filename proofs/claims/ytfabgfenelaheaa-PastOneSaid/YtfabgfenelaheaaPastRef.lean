/- The document's answer for layer 8, by definition. -/
import Derived.Test.YtfabgfenelaheaaEv
import Derived.RegionTactic
import Derived.Deep.RegionHeld3
import Derived.Deep.QuietTactic
import Derived.BigQuiet
set_option linter.unusedVariables false
namespace Go.Proofs.Ytfabgfenelaheaa
open Go.RowKit

attribute [local go_sem] ite_min ite_max

set_option maxHeartbeats 1000000 in
theorem rsum (a : Option Addr) (len cap : Nat) (L : List (Int × Int)) (w : World) (hI : IsEv w a len cap L) :
    Calls Try.prog 66 #[.slice a len cap] w fun e w' => e = .returned (.int .u64 (usm L)) ∧ w = w' := by
  have hUL := hI.2.2.1
  obtain rfl := hI.1
  have hmax : L.length ≤ maxLen := Nat.le_trans hI.2.1.1 hI.2.1.2.1
  unfold maxLen at hmax
  have HI := Lib.hid hI
  have HU := Lib.hid hUL
  clear hI hUL
  go_enter Try.func66, Try.ntmps66
  go_wp2
  go_loop [3, 4] (fun s i => ∃ k : Nat, k ≤ L.length ∧ s = .int .u64 (usm (L.take k)) ∧ i = .int .i64 k) (fun _ i => L.length - (intOf i).toNat)
  case atStart => exact ⟨0, by omega, by simp [usm_nil], rfl⟩
  case round =>
    obtain ⟨k, hk, rfl, rfl⟩ := hrel
    by_cases hlt : k < L.length
    · obtain ⟨b, off, rfl, hc⟩ := HI.out.at (by omega)
      have hc1 := (hc k hlt).2
      have hn := usm_take (k := k) HU.out (by omega)
      have hS := usm_U (UL.take HU.out k)
      have hE := (HU.out k (by omega)).2
      obtain ⟨S, eS⟩ : ∃ x, usm (L.take k) = x := ⟨_, rfl⟩
      obtain ⟨x, ex⟩ : ∃ x, (L.getD k (0, 0)).2 = x := ⟨_, rfl⟩
      rw [eS] at hS hn
      rw [ex] at hE hn hc1
      have HN := Lib.hid hn
      have HS := Lib.hid eS
      rw [eS]
      clear hc hn ex eS
      go_wp2_with fail
      refine (rAdd S x hS hE _).mono ?_
      rw [HN.out]
      rintro e w' ⟨rfl, rfl⟩
      go_wp2
      go_round
      case rel => exact ⟨k + 1, by omega, rfl, by simp⟩
      case measure => simp [intOf]; omega
    · obtain rfl : k = L.length := by omega
      go_wp2
      go_ret
      exact ⟨ret_u64 (by simp), rfl⟩

theorem Ext.drewN {a w : World} (h : Ext a w) (n : Nat) : Ext a (w.drewN n) := Below.trans h ⟨rfl, rfl, rfl, Nat.le_refl _, fun _ _ => rfl⟩

theorem IsEv.drewN {w : World} {a : Option Addr} {len cap : Nat} {L : List (Int × Int)} (h : IsEv w a len cap L) (n : Nat) : IsEv (w.drewN n) a len cap L :=
  h.below ((Ext.refl w).drewN n)

theorem same_of {P : Program} {f : Nat} {args : Array Value} {w : World} {v : Value} (h : Calls P f args w fun e w' => e = .returned v ∧ w = w') : Calls P f args w fun e w' => e = .returned v ∧ w' = w :=
  h.mono fun _ _ h => ⟨h.1, h.2.symm⟩

set_option maxHeartbeats 1000000 in
theorem rFill (a : Option Addr) (len cap : Nat) (L : List (Int × Int)) (now : Int) (hn : U now) (w : World) (hI : IsEv w a len cap L) :
    Calls Try.prog 42 #[.slice a len cap, .int .u64 now] w fun e w' => e = .returned (.int .u64 (pfill L now)) ∧ Ext w w' := by
  have hUL := hI.2.2.1
  obtain rfl := hI.1
  have hmax : L.length ≤ maxLen := Nat.le_trans hI.2.1.1 hI.2.1.2.1
  have hcap := hI.2.1.1
  have hcap2 := hI.2.1.2.1
  unfold maxLen at hmax hcap2
  have HI := Lib.hid hI
  have HU := Lib.hid hUL
  clear hI hUL
  go_enter Try.func42, Try.ntmps42
  go_wp2
  go_loopw [5, 6] (fun s i wr => ∃ k : Nat, k ≤ L.length ∧ (∃ m, s = .int .u64 m ∧ U m ∧ Hid (max m (pfill (L.drop k) now) = pfill L now)) ∧ i = .int .i64 k ∧ Ext w wr) (fun _ i _ => L.length - (intOf i).toNat)
  case atStart => exact ⟨0, by omega, ⟨0, rfl, by unfold U; omega, Lib.hid (by have := pfill_nn L now; simp; omega)⟩, rfl, Ext.refl _⟩
  case round =>
    obtain ⟨k, hk, ⟨m, rfl, hm, hM⟩, rfl, hx⟩ := hrel
    by_cases hlt : k < L.length
    · obtain ⟨b, off, rfl, hc⟩ := HI.out.at (by omega)
      have hIr : IsEv wr _ _ _ L := HI.out.below hx
      have hc1 := hx.reads (hc k hlt).1
      have hn1 := pfill_drop (k := k) (by omega) now
      have hS := usm_U (UL.drop HU.out k)
      have hE := (HU.out k (by omega)).1
      have hD := usub_U hn hE
      have hsum := fun n => rsum _ _ _ _ (wr.drewN n) ((hIr.drewN n).drop (Nat.le_of_lt hlt))
      obtain ⟨S, eS⟩ : ∃ x, usm (L.drop k) = x := ⟨_, rfl⟩
      obtain ⟨x, ex⟩ : ∃ x, (L.getD k (0, 0)).1 = x := ⟨_, rfl⟩
      obtain ⟨R, eR⟩ : ∃ x, pfill (L.drop (k + 1)) now = x := ⟨_, rfl⟩
      rw [eS] at hS hn1 hsum
      rw [ex] at hE hn1 hc1 hD
      rw [eR] at hn1
      have hG := usub_U hS hD
      have HM : Hid (max (max m (usub S (usub now x))) (pfill (L.drop (k + 1)) now) = pfill L now) := Lib.hid (by rw [← hM.out, hn1, eR]; omega)
      have HS := Lib.hid hsum
      have hlt' : (k : Int) < (L.length : Int) := by omega
      have hkc : (k : Int) ≤ (L.length : Int) := by omega
      clear hc hn1 ex eS eR hsum hM
      have hU2 : U (max m (usub S (usub now x))) := by unfold U at *; omega
      go_wp2
      go_quiet (first | (go_at_call 66; refine Calls.quiet_of_same (same_of (HS.out _))) | (go_at_call_of 27 (Value.int .u64 S); refine Calls.quiet_of_same (same_of (rSub _ _ hS hD _))) | (go_at_call 27; refine Calls.quiet_of_same (same_of (rSub _ _ hn hE _))))
      go_wp2
      go_roundw
      case rel => exact ⟨k + 1, by omega, ⟨_, rfl, hU2, HM⟩, by simp, hx.drewN _⟩
      case measure => simp [intOf]; omega
    · obtain rfl : k = L.length := by omega
      go_wp2
      go_ret
      exact ⟨ret_u64 (by have := hM.out; simp [pfill] at this; have := hm.lo; omega), hx⟩

theorem IsEv.cut {w : World} {b off len cap i j : Nat} {L : List (Int × Int)} (h : IsEv w (some ⟨b, off, none⟩) len cap L) (hij : i ≤ j) (hj : j ≤ len) : IsEv w (some ⟨b, off + i * 2, none⟩) (j - i) (cap - i) ((L.take j).drop i) :=
  (h.take hj).drop hij

set_option maxHeartbeats 1000000 in
theorem rConforms (a : Option Addr) (len cap : Nat) (L : List (Int × Int)) (c : Int) (hn : U c) (w : World) (hI : IsEv w a len cap L) :
    Calls Try.prog 43 #[.slice a len cap, .int .u64 c] w fun e w' => e = .returned (.bool (pconf L c)) ∧ Ext w w' := by
  have hUL := hI.2.2.1
  obtain rfl := hI.1
  have hmax : L.length ≤ maxLen := Nat.le_trans hI.2.1.1 hI.2.1.2.1
  have hcap := hI.2.1.1
  have hcap2 := hI.2.1.2.1
  unfold maxLen at hmax hcap2
  have HI := Lib.hid hI
  have HU := Lib.hid hUL
  have HC := Lib.hid (pconf_span (L := L) hn.1)
  obtain ⟨hn1, hn2⟩ := hn
  clear hI hUL
  go_enter Try.func43, Try.ntmps43
  go_wp2
  go_loopw [5, 6] (fun i j wr => ∃ k : Nat, k ≤ L.length ∧ i = .int .i64 k ∧ Hid (∀ i, i < k → ∀ j, i ≤ j → j < L.length → span L i j ≤ c) ∧ Ext w wr) (fun i _ _ => L.length - (intOf i).toNat)
  case atStart => exact ⟨0, by omega, rfl, Lib.hid (fun i h => by omega), Ext.refl _⟩
  case round =>
    obtain ⟨k, hk, rfl, hM, hx⟩ := hrel
    by_cases hlt : k < L.length
    · obtain ⟨b, off, rfl, hc⟩ := HI.out.at (by omega)
      have HCC := Lib.hid hc
      have hci := (hc k hlt).1
      have hEi := (HU.out k (by omega)).1
      obtain ⟨x, ex⟩ : ∃ x, (L.getD k (0, 0)).1 = x := ⟨_, rfl⟩
      rw [ex] at hci hEi
      have HX := Lib.hid ex
      have hlt' : (k : Int) < (L.length : Int) := by omega
      clear hc ex
      go_wp2
      go_loopw [6] (fun j wr => ∃ m : Nat, k ≤ m ∧ m ≤ L.length ∧ j = .int .i64 m ∧ Hid (∀ j, k ≤ j → j < m → span L k j ≤ c) ∧ Ext w wr) (fun j _ => L.length - (intOf j).toNat)
      case atStart => exact ⟨k, by omega, by omega, rfl, Lib.hid (fun j h1 h2 => by omega), hx⟩
      case round =>
        obtain ⟨m, hkm, hm, rfl, hJ, hx2⟩ := hrel
        by_cases hlt2 : m < L.length
        · have hcj := hx2.reads (HCC.out m hlt2).1
          have hci2 := hx2.reads hci
          have hEj := (HU.out m (by omega)).1
          obtain ⟨y, ey⟩ : ∃ y, (L.getD m (0, 0)).1 = y := ⟨_, rfl⟩
          rw [ey] at hcj hEj
          have hsum := fun (wz : World) (hz : Ext w wz) (n : Nat) => rsum _ _ _ _ (wz.drewN n) (((HI.out.below hz).drewN n).cut (i := k) (j := m + 1) (by omega) (by omega))
          have hS := usm_U (UL.drop (UL.take HU.out (m + 1)) k)
          have hD := usub_U hEj hEi
          obtain ⟨S, eS⟩ : ∃ x, usm ((L.take (m + 1)).drop k) = x := ⟨_, rfl⟩
          rw [eS] at hS hsum
          have hsp : span L k m = usub S (usub y x) := by unfold span; rw [eS, ey, HX.out]
          have HSP := Lib.hid hsp
          have HS := Lib.hid hsum
          have hlm : (m : Int) < (L.length : Int) := by omega
          have hkm' : (k : Int) ≤ (m : Int) := by omega
          clear hsum eS ey hsp
          by_cases hgt : usub S (usub y x) > c
          · go_wp2
            go_quiet (first | (go_at_call 66; refine Calls.quiet_of_same (same_of (HS.out _ hx2 _))) | (go_at_call_of 27 (Value.int .u64 S); refine Calls.quiet_of_same (same_of (rSub _ _ hS hD _))) | (go_at_call 27; refine Calls.quiet_of_same (same_of (rSub _ _ hEj hEi _))))
            go_wp2
            go_ret
            exact ⟨ret_bool (by rw [HC.out]; symm; rw [decide_eq_false_iff_not]; intro h; have := h m hlt2 k (by omega); rw [HSP.out] at this; omega), hx2.drewN _⟩
          · go_wp2
            go_quiet (first | (go_at_call 66; refine Calls.quiet_of_same (same_of (HS.out _ hx2 _))) | (go_at_call_of 27 (Value.int .u64 S); refine Calls.quiet_of_same (same_of (rSub _ _ hS hD _))) | (go_at_call 27; refine Calls.quiet_of_same (same_of (rSub _ _ hEj hEi _))))
            go_wp2
            go_roundw
            case rel => exact ⟨m + 1, by omega, by omega, by simp, Lib.hid (fun j h1 h2 => by
              by_cases e : j = m
              · subst e; rw [HSP.out]; omega
              · exact hJ.out j h1 (by omega)), hx2.drewN _⟩
            case measure => simp [intOf]; omega
        · obtain rfl : m = L.length := by omega
          go_wp2
          go_roundw
          case rel => exact ⟨k + 1, by omega, by simp, Lib.hid (fun i h j h1 h2 => by
            by_cases e : i = k
            · subst e; exact hJ.out j h1 h2
            · exact hM.out i (by omega) j h1 h2), hx2⟩
          case measure => simp [intOf]; omega
    · obtain rfl : k = L.length := by omega
      go_wp2
      go_ret
      exact ⟨ret_bool (by rw [HC.out]; symm; rw [decide_eq_true_eq]; intro j hj i hi; exact hM.out i (by omega) j (by omega) hj), hx⟩

set_option maxHeartbeats 1000000 in
theorem rRises (a : Option Addr) (len cap : Nat) (L : List (Int × Int)) (w : World) (hI : IsEv w a len cap L) :
    Calls Try.prog 44 #[.slice a len cap] w fun e w' => e = .returned (.bool (prises L)) ∧ Ext w w' := by
  obtain rfl := hI.1
  have hmax : L.length ≤ maxLen := Nat.le_trans hI.2.1.1 hI.2.1.2.1
  unfold maxLen at hmax
  have HI := Lib.hid hI
  have HR : Hid (prises L = decide (∀ k, k < L.length - 1 → (L.getD k (0, 0)).1 ≤ (L.getD (k + 1) (0, 0)).1)) := Lib.hid rfl
  clear hI
  go_enter Try.func44, Try.ntmps44
  go_wp2
  go_loopw [3] (fun i wr => ∃ k : Nat, (k = 0 ∨ k < L.length) ∧ i = .int .i64 ((k : Int) + 1) ∧ Hid (∀ i, i < k → (L.getD i (0, 0)).1 ≤ (L.getD (i + 1) (0, 0)).1) ∧ Ext w wr) (fun i _ => L.length - (intOf i).toNat)
  case atStart => exact ⟨0, .inl rfl, rfl, Lib.hid (fun i h => by omega), Ext.refl _⟩
  case round =>
    obtain ⟨k, hk, rfl, hM, hx⟩ := hrel
    by_cases hlt : k + 1 < L.length
    · obtain ⟨b, off, rfl, hc⟩ := HI.out.at (by omega)
      have h0 := hx.reads (hc k (by omega)).1
      have h1 := hx.reads (hc (k + 1) hlt).1
      obtain ⟨x, ex⟩ : ∃ x, (L.getD k (0, 0)).1 = x := ⟨_, rfl⟩
      obtain ⟨y, ey⟩ : ∃ x, (L.getD (k + 1) (0, 0)).1 = x := ⟨_, rfl⟩
      rw [ex] at h0
      rw [ey] at h1
      have HX := Lib.hid ex
      have HY := Lib.hid ey
      have hl1 : (k : Int) + 1 < (L.length : Int) := by omega
      clear hc ex ey
      by_cases hgt : y < x
      · go_wp2
        go_quiet (fail)
        go_wp2
        go_ret
        exact ⟨ret_bool (by rw [HR.out]; symm; rw [decide_eq_false_iff_not]; intro h; have := h k (by omega); rw [HX.out, HY.out] at this; omega), hx.drewN _⟩
      · go_wp2
        go_quiet (fail)
        go_wp2
        go_roundw
        case rel => exact ⟨k + 1, by omega, by simp, Lib.hid (fun i h => by
          by_cases e : i = k
          · subst e; rw [HX.out, HY.out]; omega
          · exact hM.out i (by omega)), hx.drewN _⟩
        case measure => simp [intOf]; omega
    · go_wp2
      go_ret
      exact ⟨ret_bool (by rw [HR.out]; symm; rw [decide_eq_true_eq]; intro i hi; exact hM.out i (by omega)), hx⟩

theorem list_ext_getD {L M : List (Int × Int)} (hl : L.length = M.length) (h : ∀ i, i < L.length → L.getD i (0, 0) = M.getD i (0, 0)) : L = M := by
  apply List.ext_getElem hl
  intro i h1 h2
  have := h i h1
  rwa [List.getD_eq_getElem?_getD, List.getD_eq_getElem?_getD, List.getElem?_eq_getElem h1, List.getElem?_eq_getElem h2] at this

set_option maxHeartbeats 1000000 in
theorem rSame (a b : Option Addr) (len cap len' cap' : Nat) (L M : List (Int × Int)) (w : World) (hI : IsEv w a len cap L) (hJ : IsEv w b len' cap' M) :
    Calls Try.prog 28 #[.slice a len cap, .slice b len' cap'] w fun e w' => e = .returned (.bool (decide (L = M))) ∧ Ext w w' := by
  obtain rfl := hI.1
  obtain rfl := hJ.1
  have hmax : L.length ≤ maxLen := Nat.le_trans hI.2.1.1 hI.2.1.2.1
  unfold maxLen at hmax
  have HI := Lib.hid hI
  have HJ := Lib.hid hJ
  clear hI hJ
  by_cases hll : L.length = M.length
  · have HL := Lib.hid hll
    have hl' : (L.length : Int) = (M.length : Int) := by omega
    go_enter Try.func28, Try.ntmps28
    go_wp2
    go_loopw [5] (fun i wr => ∃ k : Nat, k ≤ L.length ∧ i = .int .i64 k ∧ Hid (∀ i, i < k → L.getD i (0, 0) = M.getD i (0, 0)) ∧ Ext w wr) (fun i _ => L.length - (intOf i).toNat)
    case atStart => exact ⟨0, by omega, rfl, Lib.hid (fun i h => by omega), Ext.refl _⟩
    case round =>
      obtain ⟨k, hk, rfl, hM, hx⟩ := hrel
      by_cases hlt : k < L.length
      · obtain ⟨b1, off1, rfl, hc⟩ := HI.out.at (by omega)
        obtain ⟨b2, off2, rfl, hd⟩ := HJ.out.at (by omega)
        have c0 := hx.reads (hc k hlt).1
        have c1 := hx.reads (hc k hlt).2
        have d0 := hx.reads (hd k (by omega)).1
        have d1 := hx.reads (hd k (by omega)).2
        obtain ⟨x, ex⟩ : ∃ x, L.getD k (0, 0) = x := ⟨_, rfl⟩
        obtain ⟨y, ey⟩ : ∃ x, M.getD k (0, 0) = x := ⟨_, rfl⟩
        rw [ex] at c0 c1
        rw [ey] at d0 d1
        have HX := Lib.hid ex
        have HY := Lib.hid ey
        obtain ⟨x1, x2⟩ := x
        obtain ⟨y1, y2⟩ := y
        have hl1 : (k : Int) < (L.length : Int) := by omega
        have hl2 : (k : Int) < (M.length : Int) := by omega
        clear hc hd ex ey hll hl'
        dsimp only at c0 c1 d0 d1
        by_cases e1 : x1 = y1
        · by_cases e2 : x2 = y2
          · go_wp2
            go_quiet (fail)
            go_wp2
            go_roundw
            case rel => exact ⟨k + 1, by omega, by simp, Lib.hid (fun i h => by
              by_cases e : i = k
              · subst e; rw [HX.out, HY.out, e1, e2]
              · exact hM.out i (by omega)), hx.drewN _⟩
            case measure => simp [intOf]; omega
          · go_wp2
            go_quiet (fail)
            go_wp2
            go_ret
            exact ⟨ret_bool (by symm; rw [decide_eq_false_iff_not]; rintro rfl; have := HX.out.symm.trans HY.out; simp at this; exact e2 this.2), hx.drewN _⟩
        · go_wp2
          go_quiet (fail)
          go_wp2
          go_ret
          exact ⟨ret_bool (by symm; rw [decide_eq_false_iff_not]; rintro rfl; have := HX.out.symm.trans HY.out; simp at this; exact e1 this.1), hx.drewN _⟩
      · obtain rfl : k = L.length := by omega
        clear hll hl'
        go_wp2
        go_ret
        exact ⟨ret_bool (by symm; rw [decide_eq_true_eq]; exact list_ext_getD HL.out hM.out), hx⟩
  · have hl' : ¬ (L.length : Int) = (M.length : Int) := by omega
    go_enter Try.func28, Try.ntmps28
    go_wp2
    go_ret
    exact ⟨ret_bool (by symm; rw [decide_eq_false_iff_not]; rintro rfl; exact hll rfl), Ext.refl _⟩

end Go.Proofs.Ytfabgfenelaheaa
