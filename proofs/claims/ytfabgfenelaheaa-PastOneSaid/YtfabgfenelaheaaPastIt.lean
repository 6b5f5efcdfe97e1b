/- The iterators of past: slices.Backward, suffixes. -/
import Derived.Test.YtfabgfenelaheaaRf
import Derived.Test.YtfabgfenelaheaaEv
set_option linter.unusedVariables false
namespace Go.Proofs.Ytfabgfenelaheaa
open Go.RowKit

attribute [local go_sem] Oper.semAt_some

/-- the indexes n - 1, .., k, downwards -/
def dn (n k : Nat) : List Nat := ((List.range n).drop k).reverse

theorem dn_full (n : Nat) : dn n n = [] := by simp [dn]

theorem dn_succ {n k : Nat} (h : k < n) : dn n (k + 1) ++ [k] = dn n k := by
  unfold dn
  rw [List.drop_eq_getElem_cons (i := k) (by simpa using h)]
  simp

theorem dn_length (n k : Nat) : (dn n k).length = n - k := by simp [dn]

theorem dn_next {n k x : Nat} {rest : List Nat} (hk : k ≤ n) (h : dn n 0 = dn n k ++ x :: rest) : 0 < k ∧ x = k - 1 := by
  have hl := congrArg List.length h
  rw [dn_length, List.length_append, dn_length] at hl
  simp at hl
  refine ⟨by omega, ?_⟩
  have hg : (dn n 0)[n - k]? = (dn n k ++ x :: rest)[n - k]? := by rw [h]
  rw [List.getElem?_append_right (by rw [dn_length]; omega), dn_length, Nat.sub_self] at hg
  simp [dn] at hg
  rw [List.getElem?_reverse (by simp; omega)] at hg
  simp at hg
  rw [List.getElem?_eq_getElem (by simp; omega)] at hg
  simp at hg
  omega

theorem dn_split {n j : Nat} (h1 : j ≤ n) (hk : j + 1 ≤ n) : dn n 0 = dn n (j + 1) ++ j :: dn j 0 := by
  have key : ∀ m, m ≤ n → ∃ r, dn n 0 = dn n m ++ r ∧ r = dn m 0 := by
    intro m hm
    refine ⟨dn m 0, ?_, rfl⟩
    unfold dn
    rw [← List.reverse_append]
    congr 1
    rw [List.drop_zero, List.drop_zero]
    have : List.range m = (List.range n).take m := by rw [List.take_range, Nat.min_eq_left hm]
    rw [this, List.take_append_drop]
  obtain ⟨r, hr, hr'⟩ := key (j + 1) hk
  rw [hr, hr']
  congr 1
  unfold dn
  simp [List.range_succ]

set_option maxRecDepth 100000 in
set_option maxHeartbeats 2000000 in
theorem back_gives (Bs : Nat) (a : Option Addr) (len cap : Nat) (L : List (Int × Int)) (w : World) (n₀ : Nat) (hB : Bs < w.heap.size) (hn : n₀ ≤ w.heap.size) (hBs : w.cell? ⟨Bs, 0, none⟩ = some (.slice a len cap))
    (hI : IsEv w a len cap L) (hb : 0 < len → ∀ b off, a = some ⟨b, off, none⟩ → b < n₀) :
    Gives Try.prog 90 #[.pointer (some ⟨Bs, 0, none⟩)] (fun i : Nat => #[Value.int .i64 i, evV (L.getD i (0, 0))]) n₀ (fun k => k = Bs) (dn len 0) w := by
  intro l J W hW hl hlt hJ hY h0
  obtain ⟨hlen, ⟨hcap, hmax0, hnil⟩, hUL, hrow⟩ := hI
  subst hlen
  have hmax : L.length ≤ maxLen := Nat.le_trans hcap hmax0
  unfold maxLen at hmax
  have hBW : W.cell? ⟨Bs, 0, none⟩ = some (.slice a L.length cap) := (hW.cell (p := ⟨Bs, 0, none⟩) hB).trans hBs
  refine callsIn_of_wp Try.func90 rfl trivial ?_ rfl
  simp only [Try.ntmps90, List.size_toArray, List.length_cons, List.length_nil, Nat.reduceAdd, Nat.reduceSub, Array.replicate_succ, Array.replicate_zero, List.push_toArray, List.append_toArray, List.nil_append, List.cons_append]
  gi_wp2
  gi_loopw [3] (fun i wr => ∃ k : Nat, k ≤ L.length ∧ i = .int .i64 ((k : Int) - 1) ∧ J (dn L.length k) wr ∧ Kept n₀ (l + 1) (fun k => k = Bs) W wr) (fun i _ => (intOf i + 1).toNat)
  case atStart => exact ⟨L.length, Nat.le_refl _, rfl, by rw [dn_full]; exact h0, Kept.refl _ _ _ _⟩
  case round =>
    obtain ⟨k, hk, rfl, hJs, hK⟩ := hrel
    have hBr : wr.cell? ⟨Bs, 0, none⟩ = some (.slice a L.length cap) := hK.cellT rfl hBW
    by_cases h : k = 0
    · subst h
      gi_wp2
      go_end0
      exact ⟨⟨_, rfl⟩, hJs⟩
    · obtain ⟨j, rfl⟩ : ∃ j, k = j + 1 := ⟨k - 1, by omega⟩
      have hj : j < L.length := by omega
      rcases hrow with h0' | ⟨b, off, rfl, hbw, hc⟩
      · omega
      obtain ⟨hc0, hc1⟩ := hc j hj
      have hbn : b < n₀ := hb (by omega) b off rfl
      have r0 : wr.cell? ⟨b, off + j * 2, none⟩ = some (.int .u64 (L.getD j (0, 0)).1) := (hK.below.cell (p := ⟨b, off + j * 2, none⟩) hbn).trans ((hW.cell (p := ⟨b, off + j * 2, none⟩) hbw).trans hc0)
      have r1 : wr.cell? ⟨b, off + j * 2 + 1, none⟩ = some (.int .u64 (L.getD j (0, 0)).2) := (hK.below.cell (p := ⟨b, off + j * 2 + 1, none⟩) hbn).trans ((hW.cell (p := ⟨b, off + j * 2 + 1, none⟩) hbw).trans hc1)
      obtain ⟨fn, tmps, assign, body, hy, hR⟩ := hY _ j wr hJs ⟨_, dn_split (by omega) hk⟩
      dsimp only [evV] at hy
      rw [show ((j + 1 : Nat) : Int) - 1 = j by omega]
      have hjl : (j : Int) < L.length := by omega
      obtain ⟨e1, he1⟩ : ∃ x, (L.getD j (0, 0)).1 = x := ⟨_, rfl⟩
      obtain ⟨e2, he2⟩ : ∃ x, (L.getD j (0, 0)).2 = x := ⟨_, rfl⟩
      rw [he1] at r0 hy
      rw [he2] at r1 hy
      clear he1 he2 hc hUL hY
      gi_wp2
      refine ⟨rfl, hR.mono ?_⟩
      rintro e W3 ⟨rfl, hJ3, hk3⟩
      gi_wp2
      go_roundw
      case rel => exact ⟨j, by omega, rfl, by rw [← dn_succ (by omega)]; exact hJ3, hK.trans hk3⟩
      case measure => simp [intOf]

/-- what suffixes' closure hands over: an event, and the sum of it and all behind it -/
abbrev sufV (L : List (Int × Int)) (i : Nat) : Array Value := #[evV (L.getD i (0, 0)), .int .u64 (usm (L.drop i))]

set_option maxRecDepth 100000 in
set_option maxHeartbeats 2000000 in
theorem back_box (a : Option Addr) (len cap : Nat) (w : World) :
    Calls Try.prog 68 #[.slice a len cap] w fun e w' => e = .returned (.func (.func 90) #[] #[.pointer (some ⟨w.heap.size, 0, none⟩)]) ∧ w' = w.alloc (.cells #[.slice a len cap] 22) := by
  go_enter Try.func68, Try.ntmps68
  go_wp2
  go_ret
  exact ⟨rfl, rfl⟩

theorem suf_box (a : Option Addr) (len cap : Nat) (w : World) :
    Calls Try.prog 48 #[.slice a len cap] w fun e w' => e = .returned (.func (.func 67) #[] #[.pointer (some ⟨w.heap.size, 0, none⟩)]) ∧ w' = w.alloc (.cells #[.slice a len cap] 22) := by
  go_enter Try.func48, Try.ntmps48
  go_wp2
  go_ret
  exact ⟨rfl, rfl⟩

set_option maxRecDepth 100000 in
set_option maxHeartbeats 4000000 in
theorem suf_gives (Bs : Nat) (a : Option Addr) (len cap : Nat) (L : List (Int × Int)) (w : World) (n₀ : Nat) (hB : Bs < w.heap.size) (hn : n₀ ≤ w.heap.size) (hBs : w.cell? ⟨Bs, 0, none⟩ = some (.slice a len cap))
    (hI : IsEv w a len cap L) (hb : 0 < len → ∀ b off, a = some ⟨b, off, none⟩ → b < n₀) :
    Gives Try.prog 67 #[.pointer (some ⟨Bs, 0, none⟩)] (sufV L) n₀ (fun _ => False) (dn len 0) w := by
  intro l J W hW hl hlt hJ hY h0
  have hIW : IsEv W a len cap L := hI.below hW
  have hBlt : Bs < W.heap.size := Nat.lt_of_lt_of_le hB hW.size
  have hlen := hI.1
  subst hlen
  have hUL : UL L := hI.2.2.1
  have hBW : W.cell? ⟨Bs, 0, none⟩ = some (.slice a L.length cap) := (hW.cell (p := ⟨Bs, 0, none⟩) hB).trans hBs
  refine callsIn_of_wp_marks Try.func67 rfl trivial ?_ rfl
  simp only [Try.ntmps67, List.size_toArray, List.length_cons, List.length_nil, Nat.reduceAdd, Nat.reduceSub, Array.replicate_succ, Array.replicate_zero, List.push_toArray, List.append_toArray, List.nil_append, List.cons_append]
  gi_wp2
  refine ⟨trivial, rfl, (callsIn_wide.2 (back_box a L.length cap _)).mono ?_⟩
  rintro e w' ⟨rfl, rfl⟩
  gi_wp2
  have hx2 : Ext W (((W.alloc (.cells #[.func (.yield l) #[] #[]] 94)).alloc (.cells #[.int .u64 0] 23)).alloc (.cells #[.slice a L.length cap] 22)) := (((Ext.refl W).alloc _).alloc _).alloc _
  refine wp_rangeFunc_gives (lb := #[.pointer (some ⟨W.heap.size + 2, 0, none⟩)]) rfl (enters_of Try.func90 (by kernel_rfl) rfl)
    (back_gives (W.heap.size + 2) a L.length cap L _ n₀ (by simp) (by simp; have := hW.size; omega) (by go_simp) (hIW.below hx2) hb) (fun k hk => by subst hk; simp) (Below.refl _ _) (by simp; have := hW.size; omega) (fun _ => rfl)
    (fun pre Wx => J pre Wx ∧ pre = dn L.length (L.length - pre.length) ∧ Wx.cell? ⟨W.heap.size + 1, 0, none⟩ = some (.int .u64 (usm (L.drop (L.length - pre.length)))) ∧ Wx.frozen? ⟨W.heap.size + 1, 0, none⟩ = false ∧ Wx.cell? ⟨W.heap.size, 0, none⟩ = some (.func (.yield l) #[] #[]))
    ?inv ?start ?round ?done
  case inv =>
    rintro pre A B ⟨h1, h2, h3, h4, h5⟩ hbl
    refine ⟨hJ _ _ _ h1 (hbl.mono (by simp; omega)), h2, (hbl.cell (p := ⟨W.heap.size + 1, 0, none⟩) (by simp)).trans h3, (hbl.frozen (p := ⟨W.heap.size + 1, 0, none⟩) (by simp)).trans h4, (hbl.cell (p := ⟨W.heap.size, 0, none⟩) (by simp; omega)).trans h5⟩
  case start =>
    refine ⟨hJ _ _ _ h0 (Below.mono hx2 (by omega)), by simp [dn_full], ?_, by go_simp, by go_simp⟩
    rw [show usm (L.drop (L.length - ([] : List Nat).length)) = 0 by simp [usm_nil]]
    go_simp
  case round =>
    rintro l' pre x Wr hl' hlt' ⟨hJr, hpre, hsum, hfz, hyb⟩ ⟨rest, hrest⟩
    obtain ⟨k, hk⟩ : ∃ k, L.length - pre.length = k := ⟨_, rfl⟩
    rw [hk] at hpre hsum
    subst hpre
    rw [dn_length] at hk
    have hrest' := hrest
    obtain ⟨hk0, rfl⟩ := dn_next (by omega) hrest
    obtain ⟨j, rfl⟩ : ∃ j, k = j + 1 := ⟨k - 1, by omega⟩
    simp only [Nat.add_sub_cancel] at *
    have hj : j < L.length := by omega
    have hnext := usm_drop hUL hj
    have hS := usm_U (hUL.drop (j + 1))
    have hE := (hUL j hj).2
    have hyj := hY (dn L.length (j + 1)) j
    dsimp only [sufV, evV] at hyj
    rw [← hnext] at hyj
    obtain ⟨S, eS⟩ : ∃ x, usm (L.drop (j + 1)) = x := ⟨_, rfl⟩
    obtain ⟨e1, he1⟩ : ∃ x, (L.getD j (0, 0)).1 = x := ⟨_, rfl⟩
    obtain ⟨e2, he2⟩ : ∃ x, (L.getD j (0, 0)).2 = x := ⟨_, rfl⟩
    rw [eS, he2] at hnext
    rw [he1, he2, eS] at hyj
    rw [he2] at hE
    rw [eS] at hS hsum
    have HN := Lib.hid hnext
    simp only [evV, he1, he2]
    clear hnext hrest hk eS he1 he2
    obtain ⟨hS1, hS2⟩ := hS
    obtain ⟨hE1, hE2⟩ := hE
    gi_wp2
    refine ⟨(Ext.refl Wr).alloc _, fun W₂ h12 hI2 => ?_⟩
    obtain ⟨hJ2, -⟩ := hI2
    have hsz : W.heap.size + 3 ≤ l' := by simp at hl'; omega
    have hsz0 : W.heap.size < Wr.heap.size := by omega
    have hsz1 : W.heap.size + 1 < Wr.heap.size := by omega
    have c0 : W₂.cell? ⟨Wr.heap.size, 0, none⟩ = some (.int .u64 e1) := h12.cell (p := ⟨Wr.heap.size, 0, none⟩) (by simp; omega) (by go_simp)
    have c1 : W₂.cell? ⟨Wr.heap.size, 1, none⟩ = some (.int .u64 e2) := h12.cell (p := ⟨Wr.heap.size, 1, none⟩) (by simp; omega) (by go_simp)
    have hlt2 : Wr.heap.size < W₂.heap.size := World.block_lt_of_cell? W₂ _ c0
    have s0 : W₂.cell? ⟨W.heap.size + 1, 0, none⟩ = some (.int .u64 S) := (h12.below.cell (p := ⟨W.heap.size + 1, 0, none⟩) (by simp)).trans (by go_simp)
    have sf : W₂.frozen? ⟨W.heap.size + 1, 0, none⟩ = false := (h12.below.frozen (p := ⟨W.heap.size + 1, 0, none⟩) (by simp)).trans (by go_simp)
    have y0 : W₂.cell? ⟨W.heap.size, 0, none⟩ = some (.func (.yield l) #[] #[]) := (h12.below.cell (p := ⟨W.heap.size, 0, none⟩) (by simp; omega)).trans (by go_simp)
    clear hsum hfz hyb
    have hz1 : W.heap.size + 1 < W₂.heap.size := by omega
    have hz0 : W.heap.size < W₂.heap.size := by omega
    gi_wp2
    refine ⟨trivial, rfl, ?_⟩
    refine (CallsIn.inRound l' (callsIn_wide.2 (nAdd2 S e2 W₂.heap.size 2 ⟨hS1, hS2⟩ ⟨hE1, hE2⟩ _ (by go_simp) (by go_simp)))).mono ?_
    rintro e w' ⟨rfl, rfl⟩
    obtain ⟨W₃, eW₃, hT2, hk23, s3, f3, y3⟩ : ∃ W₃, (W₂.setCell ⟨W.heap.size + 1, 0, none⟩ (.int .u64 (uadd S e2))).alloc (.cells #[.int .u64 S, .int .u64 e2] 23) = W₃ ∧ Below (l + 1) W₂ W₃ ∧ Kept n₀ (W.heap.size + 3) (fun k => k = W.heap.size + 2) W₂ W₃ ∧
        W₃.cell? ⟨W.heap.size + 1, 0, none⟩ = some (.int .u64 (uadd S e2)) ∧ W₃.frozen? ⟨W.heap.size + 1, 0, none⟩ = false ∧ W₃.cell? ⟨W.heap.size, 0, none⟩ = some (.func (.yield l) #[] #[]) := by
      refine ⟨_, rfl, ?_, ?_, by go_simp, by go_simp, by go_simp⟩
      · exact Below.alloc ((Below.refl _ _).setCell (p := ⟨W.heap.size + 1, 0, none⟩) (by simp; omega) _) (by simp; omega) _
      · exact (Kept.setCell _ _ _ _ _ _ (by simp; have := hW.size; omega) (by simp) (by simp)).trans (Kept.ext ((Ext.refl _).alloc _) (by simp; have := hW.size; omega))
    have HW := Lib.hid eW₃
    clear eW₃
    obtain ⟨fn, tmps, assign, body, hy, hR⟩ := hyj _ (hJ _ _ _ hJ2 hT2) ⟨rest, hrest'⟩
    rw [← HW.out] at hy hR
    clear hyj hY
    gi_wp2
    refine ⟨rfl, hR.mono ?_⟩
    rw [HW.out]
    rintro e W4 ⟨rfl, hJ4, hk4⟩
    gi_wp2
    have hle : W₂.heap.size ≤ W₃.heap.size := hT2.size
    have hk24 : Kept n₀ (W.heap.size + 3) (fun k => k = W.heap.size + 2) W₂ W4 := hk23.trans (hk4.of_beyond (by omega) (fun k hk => by omega))
    refine ⟨by simpa using hk24, hJ4, ?_, ?_, ?_, ?_⟩
    · rw [dn_succ hj, dn_length, show L.length - (L.length - j) = j by omega]
    · rw [dn_succ hj, dn_length, show L.length - (L.length - j) = j by omega, ← HN.out]
      exact cell_of_block (hk4.beyond (W.heap.size + 1) (by omega) (by omega)) s3
    · exact (frozen_of_block (hk4.beyond (W.heap.size + 1) (by omega) (by omega))).trans f3
    · exact cell_of_block (hk4.beyond W.heap.size (by omega) (by omega)) y3
  case done =>
    rintro D Wd hD ⟨hJd, _⟩ hK
    gi_wp2
    refine ⟨by simp, .inl ⟨_, _, rfl, run_takeDeferred hK, ?_⟩⟩
    exact ⟨_, results_none rfl _ _ _, ⟨_, rfl⟩, hJ _ _ _ hJd (below_putObj _ _ _ _ (by simp at hD; omega))⟩

end Go.Proofs.Ytfabgfenelaheaa
