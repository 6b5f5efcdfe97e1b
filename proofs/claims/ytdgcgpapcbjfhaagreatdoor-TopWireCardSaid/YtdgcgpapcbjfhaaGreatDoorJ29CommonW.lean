/- How much two keys begin with alike, walked. -/
import Derived.Test.YtdgcgpapcbjfhaaGreatDoorJ11Rg
import Derived.Test.YtdgcgpapcbjfhaaGreatDoorJ15OrdR
set_option linter.unusedVariables false
set_option linter.unusedSimpArgs false

/- How much two keys begin with alike. -/
namespace Go.Proofs.YtdgcgpapcbjfhaaGreatDoor
open Go.RowKit

attribute [local go_sem] Oper.semAt_some ite_min

theorem bothBox (a b : ByteArray) (w : World) :
    Calls Tryz.prog 212 #[.string a, .string b] w fun e w' => e = .returned (.func (.func 223) #[] #[.pointer (some ⟨w.heap.size, 0, none⟩), .pointer (some ⟨w.heap.size + 1, 0, none⟩)]) ∧ w' = (w.alloc (.cells #[.string a] 9)).alloc (.cells #[.string b] 9) := by
  go_enter Tryz.func212, Tryz.ntmps212
  go_wp2
  go_ret
  exact ⟨rfl, rfl⟩

set_option maxRecDepth 100000 in
set_option maxHeartbeats 1600000 in
theorem both_gives (A B : Nat) (a b : ByteArray) (ha : a.size ≤ 1000000) (hb : b.size ≤ 1000000) (w : World) (n₀ : Nat) (hn : n₀ ≤ w.heap.size) (hA : w.cell? ⟨A, 0, none⟩ = some (.string a)) (hB : w.cell? ⟨B, 0, none⟩ = some (.string b)) :
    GivesG Tryz.prog 223 #[.pointer (some ⟨A, 0, none⟩), .pointer (some ⟨B, 0, none⟩)] (fun x : UInt8 × UInt8 => #[Value.int .u8 x.1.toNat, .int .u8 x.2.toNat]) n₀ (fun k => k = A ∨ k = B) (fun _ => False)
      (fun pre x => pre.length < a.size ∧ pre.length < b.size ∧ x = ((bs a).getD pre.length 0, (bs b).getD pre.length 0)) (fun ys => ys.length = min a.size b.size) w := by
  intro l J Jx W hW hl hlt hJ hJx hY h0
  have hA0 : A < w.heap.size := World.block_lt_of_cell? w _ hA
  have hB0 : B < w.heap.size := World.block_lt_of_cell? w _ hB
  have hAW : W.cell? ⟨A, 0, none⟩ = some (.string a) := (hW.cell (p := ⟨A, 0, none⟩) hA0).trans hA
  have hBW : W.cell? ⟨B, 0, none⟩ = some (.string b) := (hW.cell (p := ⟨B, 0, none⟩) hB0).trans hB
  clear hA hB
  refine callsIn_of_wp Tryz.func223 rfl trivial ?_ rfl
  simp only [Tryz.ntmps223, List.size_toArray, List.length_cons, List.length_nil, Nat.reduceAdd, Nat.reduceSub, Array.replicate_succ, Array.replicate_zero, List.push_toArray, List.append_toArray, List.nil_append, List.cons_append]
  gi_wp2
  all_goals
    gi_loopw [4, 10] (fun _ i wr => ∃ (k : Nat) (pre : List (UInt8 × UInt8)), k ≤ a.size ∧ k ≤ b.size ∧ i = .int .i64 k ∧ Hid (pre.length = k) ∧ Hid (J pre wr) ∧ Hid (Kept n₀ (l + 1) (fun k => k = A ∨ k = B) W wr)) (fun _ i _ => min a.size b.size - (intOf i).toNat)
    case atStart => exact ⟨0, [], Nat.zero_le _, Nat.zero_le _, rfl, Lib.hid rfl, Lib.hid h0, Lib.hid (Kept.refl _ _ _ _)⟩
    case round =>
      obtain ⟨k, pre, hk1, hk2, rfl, hpl, hJs, hK⟩ := hrel
      have hAr : wr.cell? ⟨A, 0, none⟩ = some (.string a) := hK.out.cellT (.inl rfl) hAW
      have hBr : wr.cell? ⟨B, 0, none⟩ = some (.string b) := hK.out.cellT (.inr rfl) hBW
      by_cases hlt2 : k < a.size ∧ k < b.size
      · obtain ⟨hka, hkb⟩ := hlt2
        obtain ⟨fn, tmps, assign, body, hy, hR⟩ := hY pre ((bs a).getD k 0, (bs b).getD k 0) wr.drew (hJ _ _ _ hJs.out (But.refl _ wr).drew) ⟨by rw [hpl.out]; exact hka, by rw [hpl.out]; exact hkb, by rw [hpl.out]⟩
        dsimp only at hy
        rw [← bs_at a k hka, ← bs_at b k hkb] at hy
        gi_wp2
        gi_region_with ((refine ⟨rfl, hR.mono ?_⟩; rintro e W3 h3; obtain ⟨bb, rfl, h4⟩ : ∃ bb : Bool, e = .returned (.bool bb) ∧ (if bb = true then J (pre ++ [((bs a).getD k 0, (bs b).getD k 0)]) W3 ∧ Kept n₀ (l + 1) (fun k => k = A ∨ k = B) wr.drew W3 else Jx W3) := (by rcases h3 with ⟨rfl, h5⟩ | ⟨rfl, h5⟩; exact ⟨true, rfl, by simpa using h5⟩; exact ⟨false, rfl, by simpa using h5⟩)))
        all_goals
          have h4H := Lib.hid h4
          clear h4
          cases bb
          · gi_wp2
            refine bodyPost_ret (results_none rfl _ _ _) rfl ?_
            exact ⟨⟨_, rfl⟩, .inr (by have := h4H.out; simpa using this)⟩
          · obtain ⟨hJ3, hk3⟩ : J (pre ++ [((bs a).getD k 0, (bs b).getD k 0)]) W3 ∧ Kept n₀ (l + 1) (fun k => k = A ∨ k = B) wr.drew W3 := by have := h4H.out; simpa using this
            have hK3 : Hid (Kept n₀ (l + 1) (fun k => k = A ∨ k = B) W W3) := Lib.hid ((hK.out.trans (Kept.ext ((Ext.refl wr).drew) (by have := hK.out.below.size; have := hW.size; omega))).trans hk3)
            have hJ4 := Lib.hid hJ3
            have hp4 : Hid ((pre ++ [((bs a).getD k 0, (bs b).getD k 0)]).length = k + 1) := Lib.hid (by simp [hpl.out])
            clear h4H hJ3 hk3
            gi_wp2
            go_roundw
            case rel => exact ⟨k + 1, _, by omega, by omega, by go_num, hp4, hJ4, hK3⟩
            case measure => (simp [intOf]) <;> omega
      · have hkm : k = min a.size b.size := by omega
        have hE : Hid (∃ ys : List (UInt8 × UInt8), ys.length = min a.size b.size ∧ J ys wr) := Lib.hid ⟨pre, by rw [hpl.out, hkm], hJs.out⟩
        clear hY hpl hJs hkm
        by_cases hkk : k = a.size
        · subst hkk
          gi_wp2
          all_goals
            go_end0
            exact ⟨⟨_, rfl⟩, .inl hE.out⟩
        · obtain rfl : k = b.size := by omega
          gi_wp2
          all_goals
            go_end0
            exact ⟨⟨_, rfl⟩, .inl hE.out⟩

end Go.Proofs.YtdgcgpapcbjfhaaGreatDoor

/- How much two keys begin with alike, walked. -/
namespace Go.Proofs.YtdgcgpapcbjfhaaGreatDoor
open Go.RowKit

attribute [local go_sem] Oper.semAt_some

set_option maxRecDepth 100000 in
set_option maxHeartbeats 1600000 in
theorem pCommon (a b : List UInt8) (ha : a.length ≤ 1000000) (hb : b.length ≤ 1000000) (w : World) :
    Calls Tryz.prog 175 #[.string (strOf a), .string (strOf b)] w fun e w' => e = .returned (.int .i64 (comm a b)) ∧ Ext w w' := by
  have hsa : (strOf a).size = a.length := by rw [← bs_length, bs_strOf]
  have hsb : (strOf b).size = b.length := by rw [← bs_length, bs_strOf]
  obtain ⟨C, hcm⟩ : ∃ C : Nat, comm a b = C ∧ Hid (∀ n : Nat, n ≤ a.length → n ≤ b.length → a.take n = b.take n → (n = a.length ∨ n = b.length ∨ a.getD n 0 ≠ b.getD n 0) → C = n) := ⟨_, rfl, Lib.hid (comm_eq a b)⟩
  obtain ⟨hC, hcm⟩ := hcm
  rw [hC]
  clear hC
  refine (callsIn_wide (n := 0)).1 ?_
  refine callsIn_of_wp_marks Tryz.func175 rfl trivial ?_ rfl
  simp only [Tryz.ntmps175, List.size_toArray, List.length_cons, List.length_nil, Nat.reduceAdd, Nat.reduceSub, Array.replicate_succ, Array.replicate_zero, List.push_toArray, List.append_toArray, List.nil_append, List.cons_append]
  gi_wp2
  refine ⟨trivial, rfl, (callsIn_wide.2 (bothBox (strOf a) (strOf b) _)).mono ?_⟩
  rintro e w' ⟨rfl, rfl⟩
  gi_wp2
  have hx2 : Ext w (((w.alloc (.cells #[.int .i64 0] 3)).alloc (.cells #[.string (strOf a)] 9)).alloc (.cells #[.string (strOf b)] 9)) := (((Ext.refl w).alloc _).alloc _).alloc _
  refine wp_rangeFunc_g (n₀ := w.heap.size) (lb := #[.pointer (some ⟨w.heap.size + 1, 0, none⟩), .pointer (some ⟨w.heap.size + 2, 0, none⟩)]) rfl (enters_of Tryz.func223 (by kernel_rfl) rfl)
    (both_gives (w.heap.size + 1) (w.heap.size + 2) (strOf a) (strOf b) (by omega) (by omega) _ w.heap.size (by simp; omega) (by go_simp) (by go_simp)) (by rintro k (rfl | rfl) <;> simp) (fun k h => h.elim) (Below.refl _ _) (by simp; omega) (fun _ => rfl)
    (fun pre Wx => Ext w Wx ∧ pre.length ≤ a.length ∧ pre.length ≤ b.length ∧ a.take pre.length = b.take pre.length ∧ Wx.cell? ⟨w.heap.size, 0, none⟩ = some (.int .i64 pre.length) ∧ Wx.frozen? ⟨w.heap.size, 0, none⟩ = false)
    (fun id Wx => id = 0 ∧ Ext w Wx ∧ Wx.cell? ⟨w.heap.size, 0, none⟩ = some (.int .i64 C))
    ?inv ?invx ?start ?round ?done ?stop
  case inv =>
    rintro pre A B ⟨h1, h2, h3, h4, h5, h6⟩ hbl
    exact ⟨hbl.ext h1 (by rintro k (h | h); simp at h; omega; exact h.elim), h2, h3, h4, hbl.cell h5 (by rintro (h | h); simp at h; omega; exact h), hbl.free h5 (by rintro (h | h); simp at h; omega; exact h) h6⟩
  case invx =>
    rintro id A B ⟨h0, h1, h5⟩ hbl
    exact ⟨h0, hbl.ext h1 (by rintro k (h | h); simp at h; omega; exact h.elim), hbl.cell h5 (by rintro (h | h); simp at h; omega; exact h)⟩
  case start => exact ⟨hx2, by simp, by simp, by simp, by go_simp, by go_simp⟩
  case round =>
    rintro l' pre x Wr hl' hlt' ⟨hx, n1, n2, heq, hc, hf⟩ ⟨q1, q2, rfl⟩
    rw [bs_strOf, bs_strOf]
    rw [hsa] at q1
    rw [hsb] at q2
    have hstep : Hid (a.getD pre.length 0 = b.getD pre.length 0 → a.take (pre.length + 1) = b.take (pre.length + 1)) := Lib.hid (take_eq_succ q1 q2 heq)
    have hend : Hid (a.getD pre.length 0 ≠ b.getD pre.length 0 → C = pre.length) := Lib.hid fun h => hcm.out pre.length n1 n2 heq (.inr (.inr h))
    generalize a.getD pre.length 0 = ca at *
    generalize b.getD pre.length 0 = cb at *
    generalize hpl : pre.length = n at *
    have hplH := Lib.hid hpl
    clear hpl
    dsimp only
    gi_wp2
    refine ⟨Ext.refl _, fun W₂ h12 hI2 => ?_⟩
    obtain ⟨hx3, -, -, -, hc3, hf3⟩ := hI2
    have hw3 : w.heap.size < W₂.heap.size := World.block_lt_of_cell? W₂ _ hc3
    have hsz : w.heap.size + 3 ≤ l' := by simp at hl'; omega
    clear hl' hc hf heq hx
    by_cases hcc : ca = cb
    · have hst := Lib.hid (hstep.out hcc)
      subst hcc
      clear hstep hend
      gi_wp2
      have hk : Kept w.heap.size (((w.alloc (.cells #[.int .i64 0] 3)).alloc (.cells #[.string (strOf a)] 9)).alloc (.cells #[.string (strOf b)] 9)).heap.size (fun k => k = w.heap.size + 1 ∨ k = w.heap.size + 2) W₂ (W₂.setCell ⟨w.heap.size, 0, none⟩ (.int .i64 ((n : Int) + 1))) :=
        Kept.setCell _ _ _ _ _ _ (Nat.le_refl _) (by simp; omega) (by rintro (h | h) <;> simp at h)
      refine ⟨hk, hx3.setCell (Nat.le_refl _) _, ?_, ?_, ?_, ?_, ?_⟩
      · simp [hplH.out]; omega
      · simp [hplH.out]; omega
      · simp only [List.length_append, List.length_cons, List.length_nil, Nat.zero_add, hplH.out]; exact hst.out
      · rw [World.cell?_setCell_same _ _ _ hc3]; simp [hplH.out]
      · rw [World.frozen?_setCell]; exact hf3
    · have hne : ((ca.toNat : Int) != (cb.toNat : Int)) = true := by
        have : ca.toNat ≠ cb.toNat := fun h => hcc (UInt8.toNat_inj.1 h)
        simp; omega
      have hen := hend.out hcc
      rw [← hen] at hc3
      clear hstep hend
      gi_wp2
      exact ⟨Kept.refl _ _ _ _, rfl, hx3, hc3⟩
  case done =>
    rintro D ys W hD hfin ⟨h1, h2, h3, h4, h5, h6⟩ hK
    have hcl : (C : Int) = ys.length := by
      rw [hcm.out ys.length h2 h3 h4 (by rw [hsa, hsb] at hfin; omega)]
    rw [← hcl] at h5
    clear hcl hcm hfin h2 h3 h4 hx2
    gi_wp2
    refine ⟨by simp, .inl ⟨_, _, rfl, run_takeDeferred hK, ?_⟩⟩
    exact ⟨_, results_tmp rfl _ _ _, rfl, Below.trans h1 (below_putObj _ _ _ _ (by simp at hD; omega))⟩
  case stop =>
    rintro D id W hD ⟨rfl, h1, h5⟩ hK
    clear hcm hx2
    gi_wp2
    refine ⟨by simp, .inl ⟨_, _, rfl, run_takeDeferred hK, ?_⟩⟩
    exact ⟨_, results_tmp rfl _ _ _, rfl, Below.trans h1 (below_putObj _ _ _ _ (by simp at hD; omega))⟩

end Go.Proofs.YtdgcgpapcbjfhaaGreatDoor
