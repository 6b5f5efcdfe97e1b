/- past.Fill, by its iterator. -/
import Derived.Test.YtfabgfenelaheaaPastIt
import Derived.Test.YtfabgfenelaheaaRegRound
set_option linter.unusedVariables false
namespace Go.Proofs.Ytfabgfenelaheaa
open Go.RowKit

attribute [local go_sem] Oper.semAt_some ite_max

set_option maxRecDepth 100000 in
set_option maxHeartbeats 4000000 in
theorem pFill (a : Option Addr) (len cap : Nat) (L : List (Int × Int)) (now : Int) (hn : U now) (w : World) (hI : IsEv w a len cap L) :
    Calls Try.prog 22 #[.slice a len cap, .int .u64 now] w fun e w' => e = .returned (.int .u64 (pfill L now)) ∧ Ext w w' := by
  have hUL : UL L := hI.2.2.1
  have hlen := hI.1
  subst hlen
  refine (callsIn_wide (n := 0)).1 ?_
  refine callsIn_of_wp_marks Try.func22 rfl trivial ?_ rfl
  simp only [Try.ntmps22, List.size_toArray, List.length_cons, List.length_nil, Nat.reduceAdd, Nat.reduceSub, Array.replicate_succ, Array.replicate_zero, List.push_toArray, List.append_toArray, List.nil_append, List.cons_append]
  have hn' := hn
  obtain ⟨hn1, hn2⟩ := hn'
  gi_wp2
  refine ⟨trivial, rfl, (callsIn_wide.2 (suf_box a L.length cap _)).mono ?_⟩
  rintro e w' ⟨rfl, rfl⟩
  gi_wp2
  have hx2 : Ext w (((w.alloc (.cells #[.int .u64 now] 23)).alloc (.cells #[.int .u64 0] 23)).alloc (.cells #[.slice a L.length cap] 22)) := (((Ext.refl w).alloc _).alloc _).alloc _
  refine wp_rangeFunc_gives (n₀ := w.heap.size) (lb := #[.pointer (some ⟨w.heap.size + 2, 0, none⟩)]) rfl (enters_of Try.func67 (by kernel_rfl) rfl)
    (suf_gives (w.heap.size + 2) a L.length cap L _ w.heap.size (by simp) (by simp; omega) (by go_simp) (hI.below hx2) ?below) (fun k hk => hk.elim) (Below.refl _ _) (by simp; omega) (fun _ => rfl)
    (fun pre Wx => Ext w Wx ∧ pre = dn L.length (L.length - pre.length) ∧ Wx.cell? ⟨w.heap.size + 1, 0, none⟩ = some (.int .u64 (pfill (L.drop (L.length - pre.length)) now)) ∧ Wx.frozen? ⟨w.heap.size + 1, 0, none⟩ = false ∧ Wx.cell? ⟨w.heap.size, 0, none⟩ = some (.int .u64 now))
    ?inv ?start ?round ?done
  case below =>
    intro h0 b off hab
    rcases hI.2.2.2 with h | ⟨b', off', h, hlt, _⟩
    · omega
    · rw [hab] at h; cases h; exact hlt
  case inv =>
    rintro pre A B ⟨h1, h2, h3, h4, h5⟩ hbl
    refine ⟨Below.trans h1 (Below.mono hbl (by simp; omega)), h2, (hbl.cell (p := ⟨w.heap.size + 1, 0, none⟩) (by simp)).trans h3, (hbl.frozen (p := ⟨w.heap.size + 1, 0, none⟩) (by simp)).trans h4, (hbl.cell (p := ⟨w.heap.size, 0, none⟩) (by simp; omega)).trans h5⟩
  case start =>
    refine ⟨hx2, by simp [dn_full], ?_, by go_simp, by go_simp⟩
    rw [show pfill (L.drop (L.length - ([] : List Nat).length)) now = 0 by simp [pfill]]
    go_simp
  case round =>
    rintro l' pre x Wr hl' hlt' ⟨hxr, hpre, hsum, hfz, hnb⟩ ⟨rest, hrest⟩
    obtain ⟨k, hk⟩ : ∃ k, L.length - pre.length = k := ⟨_, rfl⟩
    rw [hk] at hpre hsum
    subst hpre
    rw [dn_length] at hk
    obtain ⟨hk0, rfl⟩ := dn_next (by omega) hrest
    obtain ⟨j, rfl⟩ : ∃ j, k = j + 1 := ⟨k - 1, by omega⟩
    simp only [Nat.add_sub_cancel] at *
    have hj : j < L.length := by omega
    have hnext := pfill_drop hj now
    have hS := usm_U (hUL.drop j)
    have hP := pfill_U (hUL.drop (j + 1)) now hn
    have hE := (hUL j hj).1
    have hD := usub_U hn hE
    have hG := usub_U hS hD
    obtain ⟨S, eS⟩ : ∃ x, usm (L.drop j) = x := ⟨_, rfl⟩
    obtain ⟨M, eM⟩ : ∃ x, pfill (L.drop (j + 1)) now = x := ⟨_, rfl⟩
    obtain ⟨e1, he1⟩ : ∃ x, (L.getD j (0, 0)).1 = x := ⟨_, rfl⟩
    obtain ⟨e2, he2⟩ : ∃ x, (L.getD j (0, 0)).2 = x := ⟨_, rfl⟩
    rw [he1] at hE hD hG hnext
    rw [eS] at hS hG hnext
    rw [eM] at hP hsum hnext
    have HN := Lib.hid hnext
    simp only [sufV, evV, he1, he2, eS]
    clear hnext hrest hk eS eM he1 he2
    gi_wp2
    refine ⟨(Ext.refl Wr).alloc _, fun W₂ h12 hI2 => ?_⟩
    obtain ⟨hx3, -⟩ := hI2
    have hsz : w.heap.size + 3 ≤ l' := by simp at hl'; omega
    have hsz0 : w.heap.size < Wr.heap.size := by omega
    have hsz1 : w.heap.size + 1 < Wr.heap.size := by omega
    have c0 : W₂.cell? ⟨Wr.heap.size, 0, none⟩ = some (.int .u64 e1) := h12.cell (p := ⟨Wr.heap.size, 0, none⟩) (by simp; omega) (by go_simp)
    have hlt2 : Wr.heap.size < W₂.heap.size := World.block_lt_of_cell? W₂ _ c0
    have s0 : W₂.cell? ⟨w.heap.size + 1, 0, none⟩ = some (.int .u64 M) := (h12.below.cell (p := ⟨w.heap.size + 1, 0, none⟩) (by simp)).trans (by go_simp)
    have sf : W₂.frozen? ⟨w.heap.size + 1, 0, none⟩ = false := (h12.below.frozen (p := ⟨w.heap.size + 1, 0, none⟩) (by simp)).trans (by go_simp)
    have y0 : W₂.cell? ⟨w.heap.size, 0, none⟩ = some (.int .u64 now) := (h12.below.cell (p := ⟨w.heap.size, 0, none⟩) (by simp; omega)).trans (by go_simp)
    clear hsum hfz hnb
    have hz1 : w.heap.size + 1 < W₂.heap.size := by omega
    have hz0 : w.heap.size < W₂.heap.size := by omega
    have hfin : Kept w.heap.size ((((w.alloc (.cells #[.int .u64 now] 23)).alloc (.cells #[.int .u64 0] 23)).alloc (.cells #[.slice a L.length cap] 22))).heap.size (fun _ => False) W₂ (W₂.setCell ⟨w.heap.size + 1, 0, none⟩ (.int .u64 (max M (usub S (usub now e1))))).drew ∧
        Ext w (W₂.setCell ⟨w.heap.size + 1, 0, none⟩ (.int .u64 (max M (usub S (usub now e1))))).drew ∧ dn L.length (j + 1) ++ [j] = dn L.length (L.length - (dn L.length (j + 1) ++ [j]).length) ∧
        (W₂.setCell ⟨w.heap.size + 1, 0, none⟩ (.int .u64 (max M (usub S (usub now e1))))).drew.cell? ⟨w.heap.size + 1, 0, none⟩ = some (.int .u64 (pfill (L.drop (L.length - (dn L.length (j + 1) ++ [j]).length)) now)) ∧
        (W₂.setCell ⟨w.heap.size + 1, 0, none⟩ (.int .u64 (max M (usub S (usub now e1))))).drew.frozen? ⟨w.heap.size + 1, 0, none⟩ = false ∧
        (W₂.setCell ⟨w.heap.size + 1, 0, none⟩ (.int .u64 (max M (usub S (usub now e1))))).drew.cell? ⟨w.heap.size, 0, none⟩ = some (.int .u64 now) := by
      refine ⟨?_, ?_, ?_, ?_, by go_simp, by go_simp⟩
      · exact (Kept.setCell _ _ _ _ _ _ (by simp) (by simp) (fun h => h)).trans (Kept.ext ((Ext.refl _).drew) (by simp; omega))
      · exact (hx3.setCell (by simp) _).drew
      · rw [dn_succ hj, dn_length, show L.length - (L.length - j) = j by omega]
      · rw [dn_succ hj, dn_length, show L.length - (L.length - j) = j by omega, HN.out, Int.max_comm]
        go_simp
    gi_wp2
    refine region_round (fun w' => w'.cell? ⟨w.heap.size, 0, none⟩ = some (.int .u64 now) ∧ w'.cell? ⟨Wr.heap.size, 0, none⟩ = some (.int .u64 e1)) (by kernel_rfl) (by kernel_rfl) ?lo ⟨by go_simp, by go_simp⟩ (fun hSt => ?_)
    case lo => rintro ⟨_, _, h⟩; exact h
    refine wpAnyH_take (i := 1) (v := .int .u64 S) rfl (by kernel_rfl) (by kernel_rfl) (by kernel_rfl) (fun _ _ _ h => h) (Or.inl ⟨by rfl, ?_⟩) (by assumption) ?_
    · (intro w hSw; obtain ⟨q1, q2⟩ := hSw; go_simp)
    simp only [Act.put, List.setIfInBounds_toArray]
    refine wpAnyH_take (i := 2) (v := .int .u64 now) rfl (by kernel_rfl) (by kernel_rfl) (by kernel_rfl) (fun _ _ _ h => h) (Or.inl ⟨by rfl, ?_⟩) (by assumption) ?_
    · (intro w hSw; obtain ⟨q1, q2⟩ := hSw; go_simp)
    try simp only [Act.put]
    refine wpAnyH_take (i := 3) (v := .pointer (some ⟨Wr.heap.size, 0, none⟩)) rfl (by kernel_rfl) (by kernel_rfl) (by kernel_rfl) (fun _ _ _ h => h) (Or.inl ⟨by rfl, ?_⟩) (by assumption) ?_
    · (intro w hSw; obtain ⟨q1, q2⟩ := hSw; go_simp)
    try simp only [Act.put]
    refine wpAnyH_take (i := 4) (v := .int .u64 e1) rfl (by kernel_rfl) (by kernel_rfl) (by kernel_rfl) (fun _ _ _ h => h) (Or.inl ⟨by rfl, ?_⟩) (by assumption) ?_
    · (intro w hSw; obtain ⟨q1, q2⟩ := hSw; go_simp)
    try simp only [Act.put]
    refine wpAnyH_ready (rs := [0, 5]) (by kernel_rfl) (by simp) ?_
    refine AllReadyH.cons rfl (fun K hK => ?_) (AllReadyH.cons rfl (fun K hK => ?_) AllReadyH.nil)
    · go_simp
      refine hK.out _ _ (by assumption) (fun hSt => ?_)
      clear hK K
      try simp only [Act.put]
      refine wpAnyH_ready (rs := [5]) (by kernel_rfl) (by simp) ?_
      refine AllReadyH.cons rfl (fun K hK => ?_) AllReadyH.nil
      · go_simp
        refine (nSub _ _ hn hE _).mono ?_
        rintro e w' ⟨rfl, rfl⟩
        dsimp only
        refine hK.out _ _ (by assumption) (fun hSt => ?_)
        clear hK K
        try simp only [Act.put]
        refine wpAnyH_ready (rs := [6]) (by kernel_rfl) (by simp) ?_
        refine AllReadyH.cons rfl (fun K hK => ?_) AllReadyH.nil
        · go_simp
          refine (nSub _ _ hS hD _).mono ?_
          rintro e w' ⟨rfl, rfl⟩
          dsimp only
          refine hK.out _ _ (by assumption) (fun hSt => ?_)
          clear hK K
          try simp only [Act.put]
          refine wpAnyH_ready (rs := [7]) (by kernel_rfl) (by simp) ?_
          refine AllReadyH.cons rfl (fun K hK => ?_) AllReadyH.nil
          · go_simp
            refine hK.out _ _ (by assumption) (fun hSt => ?_)
            clear hK K
            try simp only [Act.put]
            refine wpAnyH_ready (rs := [8]) (by kernel_rfl) (by simp) ?_
            refine AllReadyH.cons rfl (fun K hK => ?_) AllReadyH.nil
            · go_simp
              refine hK.out _ _ ?_ (fun hSt => ?_)
              · exact ⟨by go_simp, by go_simp⟩
              clear hK K
              try simp only [Act.put]
              refine wpAnyH_done (by kernel_rfl) ?_ _
              exact hfin
    · go_simp
      refine (nSub _ _ hn hE _).mono ?_
      rintro e w' ⟨rfl, rfl⟩
      dsimp only
      refine hK.out _ _ (by assumption) (fun hSt => ?_)
      clear hK K
      try simp only [Act.put]
      refine wpAnyH_ready (rs := [0, 6]) (by kernel_rfl) (by simp) ?_
      refine AllReadyH.cons rfl (fun K hK => ?_) (AllReadyH.cons rfl (fun K hK => ?_) AllReadyH.nil)
      · go_simp
        refine hK.out _ _ (by assumption) (fun hSt => ?_)
        clear hK K
        try simp only [Act.put]
        refine wpAnyH_ready (rs := [6]) (by kernel_rfl) (by simp) ?_
        refine AllReadyH.cons rfl (fun K hK => ?_) AllReadyH.nil
        · go_simp
          refine (nSub _ _ hS hD _).mono ?_
          rintro e w' ⟨rfl, rfl⟩
          dsimp only
          refine hK.out _ _ (by assumption) (fun hSt => ?_)
          clear hK K
          try simp only [Act.put]
          refine wpAnyH_ready (rs := [7]) (by kernel_rfl) (by simp) ?_
          refine AllReadyH.cons rfl (fun K hK => ?_) AllReadyH.nil
          · go_simp
            refine hK.out _ _ (by assumption) (fun hSt => ?_)
            clear hK K
            try simp only [Act.put]
            refine wpAnyH_ready (rs := [8]) (by kernel_rfl) (by simp) ?_
            refine AllReadyH.cons rfl (fun K hK => ?_) AllReadyH.nil
            · go_simp
              refine hK.out _ _ ?_ (fun hSt => ?_)
              · exact ⟨by go_simp, by go_simp⟩
              clear hK K
              try simp only [Act.put]
              refine wpAnyH_done (by kernel_rfl) ?_ _
              exact hfin
      · go_simp
        refine (nSub _ _ hS hD _).mono ?_
        rintro e w' ⟨rfl, rfl⟩
        dsimp only
        refine hK.out _ _ (by assumption) (fun hSt => ?_)
        clear hK K
        try simp only [Act.put]
        refine wpAnyH_ready (rs := [0]) (by kernel_rfl) (by simp) ?_
        refine AllReadyH.cons rfl (fun K hK => ?_) AllReadyH.nil
        · go_simp
          refine hK.out _ _ (by assumption) (fun hSt => ?_)
          clear hK K
          try simp only [Act.put]
          refine wpAnyH_ready (rs := [7]) (by kernel_rfl) (by simp) ?_
          refine AllReadyH.cons rfl (fun K hK => ?_) AllReadyH.nil
          · go_simp
            refine hK.out _ _ (by assumption) (fun hSt => ?_)
            clear hK K
            try simp only [Act.put]
            refine wpAnyH_ready (rs := [8]) (by kernel_rfl) (by simp) ?_
            refine AllReadyH.cons rfl (fun K hK => ?_) AllReadyH.nil
            · go_simp
              refine hK.out _ _ ?_ (fun hSt => ?_)
              · exact ⟨by go_simp, by go_simp⟩
              clear hK K
              try simp only [Act.put]
              refine wpAnyH_done (by kernel_rfl) ?_ _
              exact hfin
  case done =>
    rintro D Wd hD ⟨hxd, -, hm, hmf, -⟩ hK
    gi_wp2
    refine ⟨by simp, .inl ⟨_, _, rfl, run_takeDeferred hK, ?_⟩⟩
    exact ⟨_, results_tmp rfl _ _ _, by simp [dn_length], Below.trans hxd (below_putObj _ _ _ _ (by simp at hD; omega))⟩

end Go.Proofs.Ytfabgfenelaheaa
