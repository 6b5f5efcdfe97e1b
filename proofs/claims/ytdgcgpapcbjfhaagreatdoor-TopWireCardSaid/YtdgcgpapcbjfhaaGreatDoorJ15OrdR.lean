/- Rules in order, by the reference. -/
import Derived.Test.YtdgcgpapcbjfhaaGreatDoorJ14CfgO
import Derived.RegionTactic
set_option linter.unusedVariables false
set_option linter.unusedSimpArgs false

/- Which text is less, by the reference. -/
namespace Go.Proofs.YtdgcgpapcbjfhaaGreatDoor
open Go.RowKit

def comm : List UInt8 → List UInt8 → Nat
  | a :: x, b :: y => if a = b then comm x y + 1 else 0
  | _, _ => 0

theorem comm_eq : ∀ (a b : List UInt8) (n : Nat), n ≤ a.length → n ≤ b.length → a.take n = b.take n → (n = a.length ∨ n = b.length ∨ a.getD n 0 ≠ b.getD n 0) → comm a b = n
  | [], b, n, h1, _, _, _ => by simp at h1; subst h1; cases b <;> rfl
  | a :: x, [], n, _, h2, _, _ => by simp at h2; subst h2; rfl
  | a :: x, b :: y, 0, _, _, _, h4 => by
    have : a ≠ b := by simpa using h4
    simp [comm, this]
  | a :: x, b :: y, n + 1, h1, h2, h3, h4 => by
    simp at h3 h1 h2 h4
    unfold comm
    rw [if_pos h3.1, comm_eq x y n h1 h2 h3.2 (by simpa using h4)]

theorem comm_le : ∀ (a b : List UInt8), comm a b ≤ a.length ∧ comm a b ≤ b.length
  | [], b => by cases b <;> simp [comm]
  | a :: x, [] => by simp [comm]
  | a :: x, b :: y => by
    have := comm_le x y
    unfold comm; split <;> simp <;> omega

theorem lessB_comm : ∀ (a b : List UInt8), lessB a b = if comm a b = a.length ∨ comm a b = b.length then decide (a.length < b.length) else decide ((a.getD (comm a b) 0).toNat < (b.getD (comm a b) 0).toNat)
  | [], [] => by simp [lessB, comm]
  | [], b :: y => by simp [lessB, comm]
  | a :: x, [] => by simp [lessB, comm]
  | a :: x, b :: y => by
    unfold lessB comm
    by_cases h : a = b
    · rw [if_pos h, if_pos h, lessB_comm x y]; simp
    · rw [if_neg h, if_neg h]; simp

theorem take_eq_succ {a b : List UInt8} {n : Nat} (h1 : n < a.length) (h2 : n < b.length) (h : a.take n = b.take n) (he : a.getD n 0 = b.getD n 0) : a.take (n + 1) = b.take (n + 1) := by
  rw [take_snoc a n h1, take_snoc b n h2, h, he]

set_option maxRecDepth 100000 in
set_option maxHeartbeats 1600000 in
theorem rCommon (a b : ByteArray) (ha : a.size ≤ 1000000) (hb : b.size ≤ 1000000) (w : World) :
    Calls Tryz.prog 76 #[.string a, .string b] w fun e w' => e = .returned (.int .i64 (comm (bs a) (bs b))) ∧ Ext w w' := by
  have la := bs_length a
  have lb := bs_length b
  go_enter Tryz.func76, Tryz.ntmps76
  go_wp2
  go_loopw [5] (fun i wr => ∃ n : Nat, n ≤ a.size ∧ n ≤ b.size ∧ i = .int .i64 n ∧ Hid ((bs a).take n = (bs b).take n) ∧ Ext w wr) (fun i _ => a.size - (intOf i).toNat)
  case atStart => exact ⟨0, Nat.zero_le _, Nat.zero_le _, rfl, Lib.hid rfl, Ext.refl _⟩
  case round =>
    obtain ⟨n, hna, hnb, rfl, hI, hx⟩ := hrel
    by_cases h1 : n < a.size
    · by_cases h2 : n < b.size
      · obtain ⟨p, hp⟩ : ∃ p : Nat, a[n].toNat = p := ⟨_, rfl⟩
        obtain ⟨q, hq⟩ : ∃ q : Nat, b[n].toNat = q := ⟨_, rfl⟩
        have e1 : ((bs a).getD n 0).toNat = p := by rw [← bs_at a n h1]; exact hp
        have e2 : ((bs b).getD n 0).toNat = q := by rw [← bs_at b n h2]; exact hq
        by_cases hpq : p = q
        · subst hpq
          have hN := Lib.hid (take_eq_succ (by rw [la]; exact h1) (by rw [lb]; exact h2) hI.out (UInt8.toNat_inj.1 (e1.trans e2.symm)))
          clear e1 e2 hI la lb
          go_wp2
          go_region
          all_goals
            go_wp2
            go_roundw
            case rel => exact ⟨n + 1, by omega, by omega, by go_num, hN, by repeat (first | exact Ext.refl _ | assumption | apply Ext.drew | apply Ext.alloc | (refine Ext.setCell ?_ (by simp <;> omega) _) | refine Ext.trans ?_ (by assumption))⟩
            case measure => (simp [intOf]) <;> omega
        · have hN : Hid (comm (bs a) (bs b) = n) := Lib.hid (comm_eq _ _ n (by omega) (by omega) hI.out (.inr (.inr (fun h => hpq (by rw [← e1, ← e2, h])))))
          have hne : ((p : Int) == (q : Int)) = false := beq_eq_false_iff_ne.2 (by omega)
          clear e1 e2 hI la lb
          go_wp2
          go_region
          all_goals
            go_wp2
            go_ret
            exact ⟨by rw [hN.out]; rfl, by repeat (first | exact Ext.refl _ | assumption | apply Ext.drew | apply Ext.alloc | (refine Ext.setCell ?_ (by simp <;> omega) _) | refine Ext.trans ?_ (by assumption))⟩
      · obtain rfl : n = b.size := by omega
        have hN : Hid (comm (bs a) (bs b) = b.size) := Lib.hid (comm_eq _ _ _ (by omega) (by omega) hI.out (.inr (.inl lb.symm)))
        clear hI la lb
        go_wp2
        go_region
        all_goals
          go_wp2
          go_ret
          exact ⟨by rw [hN.out]; rfl, by repeat (first | exact Ext.refl _ | assumption | apply Ext.drew | apply Ext.alloc | (refine Ext.setCell ?_ (by simp <;> omega) _) | refine Ext.trans ?_ (by assumption))⟩
    · obtain rfl : n = a.size := by omega
      have hN : Hid (comm (bs a) (bs b) = a.size) := Lib.hid (comm_eq _ _ _ (by omega) (by omega) hI.out (.inl la.symm))
      clear hI la lb
      go_wp2
      go_region
      all_goals
        go_wp2
        go_ret
        exact ⟨by rw [hN.out]; rfl, by repeat (first | exact Ext.refl _ | assumption | apply Ext.drew | apply Ext.alloc | (refine Ext.setCell ?_ (by simp <;> omega) _) | refine Ext.trans ?_ (by assumption))⟩

set_option maxRecDepth 100000 in
set_option maxHeartbeats 1600000 in
theorem rLess (x y : List UInt8) (hx : x.length ≤ 1000000) (hy : y.length ≤ 1000000) (w : World) :
    Calls Tryz.prog 46 #[.string (strOf x), .string (strOf y)] w fun e w' => e = .returned (.bool (lessB x y)) ∧ Ext w w' := by
  have lx : (strOf x).size = x.length := by rw [← bs_length, bs_strOf]
  have ly : (strOf y).size = y.length := by rw [← bs_length, bs_strOf]
  have hC := rCommon (strOf x) (strOf y) (by omega) (by omega)
  have hL := lessB_comm x y
  have hle := comm_le x y
  have hgx : ∀ h : comm x y < (strOf x).size, (((strOf x)[comm x y]'h).toNat : Nat) = (x.getD (comm x y) 0).toNat := fun h => by rw [bs_at _ _ h, bs_strOf]
  have hgy : ∀ h : comm x y < (strOf y).size, (((strOf y)[comm x y]'h).toNat : Nat) = (y.getD (comm x y) 0).toNat := fun h => by rw [bs_at _ _ h, bs_strOf]
  rw [bs_strOf, bs_strOf] at hC
  rw [← lx, ← ly] at hL
  rw [← lx, ← ly] at hle
  clear lx ly hx hy
  generalize comm x y = n at *
  generalize lessB x y = R at *
  generalize (x.getD n 0).toNat = p at *
  generalize (y.getD n 0).toNat = q at *
  generalize strOf x = X at *
  generalize strOf y = Y at *
  by_cases h : n = X.size ∨ n = Y.size
  · rw [if_pos h] at hL
    subst hL
    clear hgx hgy
    by_cases h1 : n = X.size
    · clear h
      subst h1
      go_enter Tryz.func46, Tryz.ntmps46
      go_wp2_with fail
      refine (hC _).mono ?_
      rintro e w1 ⟨rfl, hb⟩
      go_wp2
      go_ret
      exact ⟨ret_bool (by simp), hb⟩
    · have h2 : n = Y.size := by omega
      have h1' : ((n : Int) == (X.size : Int)) = false := beq_eq_false_iff_ne.2 (by omega)
      clear h h1
      subst h2
      go_enter Tryz.func46, Tryz.ntmps46
      go_wp2_with fail
      refine (hC _).mono ?_
      rintro e w1 ⟨rfl, hb⟩
      go_wp2
      go_ret
      exact ⟨ret_bool (by simp), hb⟩
  · rw [if_neg h] at hL
    subst hL
    have h1 : n < X.size := by omega
    have h2 : n < Y.size := by omega
    have h1' : ((n : Int) == (X.size : Int)) = false := beq_eq_false_iff_ne.2 (by omega)
    have h2' : ((n : Int) == (Y.size : Int)) = false := beq_eq_false_iff_ne.2 (by omega)
    have hgx := hgx h1
    have hgy := hgy h2
    clear h
    go_enter Tryz.func46, Tryz.ntmps46
    go_wp2_with fail
    refine (hC _).mono ?_
    rintro e w1 ⟨rfl, hb⟩
    go_wp2
    go_region
    all_goals
      go_wp2
      go_ret
      exact ⟨ret_bool (by simp), by repeat (first | exact Ext.refl _ | assumption | apply Ext.drew | apply Ext.alloc | (refine Ext.setCell ?_ (by simp <;> omega) _) | refine Ext.trans ?_ (by assumption))⟩

end Go.Proofs.YtdgcgpapcbjfhaaGreatDoor

/- Rules in order, by the reference. -/
namespace Go.Proofs.YtdgcgpapcbjfhaaGreatDoor
open Go.RowKit

theorem posA_stop {r : Rl} {l : List Rl} {a : Nat} (h : a = 0 ∨ lessB r.pre (l.getD (a - 1) Rl0).pre = false) : posA r l a = a := by
  cases a with
  | zero => rfl
  | succ a =>
    rcases h with h | h
    · cases h
    · unfold posA; rw [if_neg (by simpa using h)]
theorem posA_down {r : Rl} {l : List Rl} {a : Nat} (h0 : 0 < a) (h : lessB r.pre (l.getD (a - 1) Rl0).pre = true) : posA r l a = posA r l (a - 1) := by
  cases a with
  | zero => omega
  | succ a => rw [posA, if_pos (by simpa using h)]; rfl

theorem rlCells_take (L : List Rl) (A : Nat) : rlCells (L.take A) = (rlCells L).take (A * 4) := by
  induction L generalizing A with
  | nil => simp [rlCells]
  | cons r L ih =>
    cases A with
    | zero => simp [rlCells]
    | succ A => rw [List.take_succ_cons, rlCells, rlCells, ih, show (A + 1) * 4 = A * 4 + 4 by omega]; simp
theorem rlCells_drop (L : List Rl) (A : Nat) : rlCells (L.drop A) = (rlCells L).drop (A * 4) := by
  induction L generalizing A with
  | nil => simp [rlCells]
  | cons r L ih =>
    cases A with
    | zero => simp [rlCells]
    | succ A => rw [List.drop_succ_cons, rlCells, ih, show (A + 1) * 4 = A * 4 + 4 by omega]; simp
theorem RulesAt.heads {w : World} {g cp n : Nat} {L : List Rl} (h : RulesAt w (.slice (some ⟨g, 0, none⟩) n cp) L) (A : Nat) : ∀ j u, (rlCells (L.take A))[j]? = some u → w.cell? ((⟨g, 0, none⟩ : Addr).add j) = some u := by
  intro j u hu
  rw [rlCells_take, List.getElem?_take] at hu
  split at hu
  · exact h.2.cells rfl j u hu
  · cases hu
theorem add_off (g o j : Nat) : (⟨g, o, none⟩ : Addr).add j = ⟨g, o + j, none⟩ := by unfold Addr.add; split <;> simp_all
theorem RulesAt.tails {w : World} {g cp n : Nat} {L : List Rl} (h : RulesAt w (.slice (some ⟨g, 0, none⟩) n cp) L) (A : Nat) : ∀ j u, (rlCells (L.drop A))[j]? = some u → w.cell? ((⟨g, A * 4, none⟩ : Addr).add j) = some u := by
  intro j u hu
  rw [rlCells_drop, List.getElem?_drop] at hu
  have := h.2.cells rfl _ u hu
  rw [add_off, Nat.zero_add] at this
  rw [add_off]; exact this

theorem okR_len {r : Rl} (h : okR r) : r.pre.length ≤ 128 := by
  rcases h.1 with h | h
  · rw [h]; simp
  · unfold kRight at h; simp at h; omega

set_option maxRecDepth 100000 in
set_option maxHeartbeats 3200000 in
theorem rOrder (most : Nat) (v : Value) (rs : List Rl) (hn : rs.length ≤ 1000) (hok : ∀ r ∈ rs, okR r) (w : World) (hv : RulesAt w v rs) :
    Calls Tryz.prog 23 #[plV most v] w fun e w' => ∃ v', e = .returned (plV most v') ∧ RulesAt w' v' (sortR rs) ∧ Ext w w' := by
  obtain ⟨i0, hi, hz0, hz1, hz2⟩ := info_parts infoRl
  obtain ⟨va, vc, rfl, hvf⟩ := hv.form
  have hvH := Lib.hid hv
  have hvF := Lib.hid hvf
  clear hv hvf
  unfold plV
  go_enter Tryz.func23, Tryz.ntmps23
  go_wp2
  obtain ⟨W, hW⟩ : ∃ W, (w.alloc (.cells #[.int .i64 most, .slice va rs.length vc] 30)).alloc (.cells #[.int .i64 0, .slice none 0 0] 30) = W := ⟨_, rfl⟩
  have a0 : W.cell? ⟨w.heap.size, 0, none⟩ = some (.int .i64 most) := by subst hW; go_simp
  have a1 : W.cell? ⟨w.heap.size, 1, none⟩ = some (.slice va rs.length vc) := by subst hW; go_simp
  have b0 : W.cell? ⟨w.heap.size + 1, 0, none⟩ = some (.int .i64 0) := by subst hW; go_simp
  have b1 : W.cell? ⟨w.heap.size + 1, 1, none⟩ = some (.slice none 0 0) := by subst hW; go_simp
  have f0 : W.frozen? ⟨w.heap.size, 0, none⟩ = false := by subst hW; go_simp
  have f1 : W.frozen? ⟨w.heap.size, 1, none⟩ = false := by subst hW; go_simp
  have g0 : W.frozen? ⟨w.heap.size + 1, 0, none⟩ = false := by subst hW; go_simp
  have g1 : W.frozen? ⟨w.heap.size + 1, 1, none⟩ = false := by subst hW; go_simp
  have xW : Ext w W := by subst hW; repeat (first | exact Ext.refl _ | assumption | apply Ext.drew | apply Ext.alloc | (refine Ext.setCell ?_ (by simp <;> omega) _) | refine Ext.trans ?_ (by assumption))
  have hsz : w.heap.size + 2 = W.heap.size := by subst hW; simp
  rw [hW]
  clear hW
  go_loopw [3, 4, 5, 6] (fun lv i _ _ wr => ∃ k : Nat, k ≤ rs.length ∧ i = .int .i64 k ∧ Hid (RulesAt wr lv (sortR (rs.take k)) ∧ ∀ x, lv.ownBlock = some x → W.heap.size ≤ x) ∧ Ext W wr) (fun _ i _ _ _ => rs.length - (intOf i).toNat)
  case atStart => exact ⟨0, Nat.zero_le _, rfl, Lib.hid ⟨RulesAt.nil _, by simp [Value.ownBlock]⟩, Ext.refl _⟩
  case round =>
    obtain ⟨k, hk, rfl, hL, hx⟩ := hrel
    have a1r := hx.reads a1
    by_cases hlt : k < rs.length
    · obtain ⟨g, rfl, hgs, hgc, hgm⟩ := hvF.out (by rintro rfl; simp at hlt)
      obtain ⟨la, lc, rfl, hlf⟩ := hL.out.1.form
      have hLn : (sortR (rs.take k)).length = k := sortR_len k _ (by simp; omega)
      rw [hLn] at hlf
      have hLH := hL
      rw [hLn] at hLH
      have hlfH := Lib.hid hlf
      clear hL hlf
      rw [hLn]
      go_wp2
      go_loopw [5] (fun i wq => ∃ a : Nat, a ≤ k ∧ i = .int .i64 a ∧ Hid (posA (rs.getD k Rl0) (sortR (rs.take k)) k = posA (rs.getD k Rl0) (sortR (rs.take k)) a) ∧ Ext wr wq) (fun i _ => (intOf i).toNat)
      case atStart => exact ⟨k, Nat.le_refl _, rfl, Lib.hid rfl, Ext.refl _⟩
      case round =>
        obtain ⟨a, ha, rfl, hP, hxq⟩ := hrel
        have a1q := hxq.reads a1r
        by_cases ha0 : 0 < a
        · obtain ⟨c, rfl⟩ : ∃ c, a = c + 1 := ⟨a - 1, by omega⟩
          have hkp : sortR (rs.take k) ≠ [] := fun e => by rw [e] at hLn; simp at hLn; omega
          obtain ⟨gl, ela, hgl, hlc, hlm⟩ := hlfH.out hkp
          have hc1 := (RulesAt.cells (hvH.out.ext (xW.trans (hx.trans hxq))) hlt).1
          have hc2 := (RulesAt.cells (rs := sortR (rs.take k)) (g := gl) (cp := lc) (by rw [hLn, ← ela]; exact hLH.out.1.ext hxq) (i := c) (by rw [hLn]; omega)).1
          have hmr : rs.getD k Rl0 ∈ rs := by rw [getD_lt _ _ _ hlt]; exact List.getElem_mem hlt
          have hml : (sortR (rs.take k)).getD (c) Rl0 ∈ rs := by
            have h1 : c < (sortR (rs.take k)).length := by rw [hLn]; omega
            rw [getD_lt _ _ _ h1]
            exact List.mem_of_mem_take (sortR_mem k _ _ (by simp; omega) (List.getElem_mem h1))
          have hLs := rLess (rs.getD k Rl0).pre ((sortR (rs.take k)).getD (c) Rl0).pre (by have := okR_len (hok _ hmr); omega) (by have := okR_len (hok _ hml); omega)
          have r1 : ∀ w', Ext wr w' → w'.cell? ⟨w.heap.size, 1, none⟩ = some (.slice (some ⟨g, 0, none⟩) rs.length vc) := fun w' hz => hz.reads a1q
          have r2 : ∀ w', Ext wr w' → w'.cell? ⟨g, k * 4, none⟩ = some (.string (strOf (rs.getD k Rl0).pre)) := fun w' hz => hz.reads hc1
          have r3 : ∀ w', Ext wr w' → w'.cell? ⟨gl, (c) * 4, none⟩ = some (.string (strOf ((sortR (rs.take k)).getD (c) Rl0).pre)) := fun w' hz => hz.reads hc2
          have hD : Hid (lessB (rs.getD k Rl0).pre ((sortR (rs.take k)).getD c Rl0).pre = true → posA (rs.getD k Rl0) (sortR (rs.take k)) (c + 1) = posA (rs.getD k Rl0) (sortR (rs.take k)) c) := Lib.hid (fun h => posA_down (by omega) h)
          have hSt : Hid (lessB (rs.getD k Rl0).pre ((sortR (rs.take k)).getD c Rl0).pre = false → posA (rs.getD k Rl0) (sortR (rs.take k)) (c + 1) = c + 1) := Lib.hid (fun h => posA_stop (.inr h))
          subst ela
          have hw1 : IntKind.i64.wrap (((c + 1 : Nat) : Int) - 1) = (c : Int) := by rw [IntKind.wrap_i64]; omega
          have hw3 : IntKind.i64.wrap (c : Int) = (c : Int) := by rw [IntKind.wrap_i64]; omega
          have hw2 : IntKind.i64.wrap ((c : Int) + 1 - 1) = (c : Int) := by rw [IntKind.wrap_i64]; omega
          have ecl : c < k := by omega
          clear hc1 hc2 hmr hml a1q a1r hkp
          generalize lessB (rs.getD k Rl0).pre ((sortR (rs.take k)).getD (c) Rl0).pre = B at *
          generalize strOf (rs.getD k Rl0).pre = S1 at *
          generalize strOf ((sortR (rs.take k)).getD (c) Rl0).pre = S2 at *
          go_wp2
          go_region_held3 (Ext wr)
            (first
              | exact Ext.trans (by assumption) hb
              | repeat (first | exact Ext.refl _ | assumption | apply Ext.drew | apply Ext.alloc | (refine Ext.setCell ?_ (by simp <;> omega) _) | refine Ext.trans ?_ (by assumption)))
            ((go_at_call 46; refine (hLs _).mono ?_; rintro e w9 ⟨rfl, hb⟩))
          have hx9 : Ext wr w9 := by assumption
          cases B
          · have hPos := Lib.hid (hP.out.trans (hSt.out rfl))
            clear r1 r2 r3 hD hSt hP
            obtain ⟨WZ, eWZ⟩ : ∃ WZ, w9 = WZ := ⟨_, rfl⟩
            have hxZ : Ext W WZ := by subst eWZ; exact hx.trans (hxq.trans hx9)
            have hLZ : RulesAt WZ (.slice (some ⟨gl, 0, none⟩) k lc) (sortR (rs.take k)) := by subst eWZ; exact hLH.out.1.ext (hxq.trans hx9)
            rw [eWZ]
            clear eWZ
            have hRZ := hvH.out.ext (xW.trans hxZ)
            have a1z := hxZ.reads a1
            obtain ⟨d0, d1, d2, d3⟩ := RulesAt.cells hRZ hlt
            have hHd := hLZ.heads (c + 1)
            have hTl := hLZ.tails (c + 1)
            have hTl0 := hLZ.heads 0
            have hHn : (rlCells ((sortR (rs.take k)).take (c + 1))).length = (c + 1) * 4 := by rw [rlCells_len, List.length_take, hLn, Nat.min_eq_left (by omega)]
            have hTn : (rlCells ((sortR (rs.take k)).drop (c + 1))).length = (k - (c + 1)) * 4 := by rw [rlCells_len, List.length_drop, hLn]
            have hFin : Hid ((sortR (rs.take k)).take (c + 1) ++ [rs.getD k Rl0] ++ (sortR (rs.take k)).drop (c + 1) = sortR (rs.take (k + 1))) := Lib.hid (by
              rw [take_snocR rs k hlt, sortR_snoc]; unfold insA; rw [hLn, hPos.out]; simp)
            have hRk := Lib.hid (show ∀ x : Rl, x = rs.getD k Rl0 → [x] = [rs.getD k Rl0] from fun x h => by rw [h])
            generalize hRR : rs.getD k Rl0 = RR at *
            obtain ⟨RRp, RRe, RRb, RRk⟩ := RR
            simp only at d0 d1 d2 d3
            obtain ⟨PS, ePS⟩ : ∃ PS, strOf RRp = PS := ⟨_, rfl⟩
            rw [ePS] at d0
            clear hLZ hRZ
            go_wp2_with (at_builtin; refine wpList_append_own _ rfl _ _ 28 rfl WZ.heap.size 47 i0 _ 4 40 Tryz.underlying28 hi hz0 hz1 hz2 rfl (by decide) (.slice none 0 0) 0 [] rfl (World.ownsRow_nil _ _ _ _) ⟨gl, 0, none⟩ (c + 1) lc (rlCells ((sortR (rs.take k)).take (c + 1))) rfl hHn hHd (rlCells_one _) ?c3ap ?c4ap (Nat.le_refl _) ?_)
            case c3ap => unfold maxLen; omega
            try (case c4ap => omega)
            intro v1 w1 hown1 hgrow1 _
            obtain ⟨va1, vc1, rfl⟩ := own_slice hown1
            have x1 : Ext WZ w1 := Below.grown (Ext.refl WZ) hgrow1 (Nat.le_refl _) (by rintro x hx; simp [Value.ownBlock] at hx)
            have a1y := x1.reads a1z
            have d0 := x1.reads d0
            have d1 := x1.reads d1
            have d2 := x1.reads d2
            have d3 := x1.reads d3
            have s1 := x1.size
            go_wp2_with (at_builtin; refine wpList_append_own _ rfl _ _ 28 rfl WZ.heap.size 47 i0 _ 4 40 Tryz.underlying28 hi hz0 hz1 hz2 rfl (by decide) _ _ _ rfl (hown1.alloc _) ⟨w1.heap.size, 0, none⟩ 1 1 (rlCells [⟨RRp, RRe, RRb, RRk⟩]) rfl rfl ?c1bp ?c2bp ?c3bp ?c4bp ?c5bp ?_)
            case c1bp => first | exact cells_new _ _ _ _ (by simp [rlCells, ePS]) | (intro q u h; simpa [rlCells, ePS] using h)
            case c2bp => exact rlCells_one _
            case c3bp => unfold maxLen; omega
            try (case c4bp => omega)
            case c5bp => simp <;> omega
            intro v2 w2 hown2 hgrow2 _
            obtain ⟨va2, vc2, rfl⟩ := own_slice hown2
            have x2 : Ext WZ w2 := Below.grown (x1.alloc _) hgrow2 (x1.alloc _).size (fun x hx => (hown1.lt x hx).1)
            have s2 := x2.size
            have hTl2 : ∀ (o : Nat), o = (c + 1) * 4 ∨ (c + 1) = k → ∀ j u, (rlCells ((sortR (rs.take k)).drop (c + 1)))[j]? = some u → w2.cell? ((⟨gl, o, none⟩ : Addr).add j) = some u := by
              intro o ho j u hu
              rcases ho with rfl | hk2
              · exact x2.reads (hTl j u hu)
              · have : (rlCells ((sortR (rs.take k)).drop (c + 1))) = [] := List.eq_nil_of_length_eq_zero (by rw [hTn]; omega)
                rw [this] at hu; simp at hu
            by_cases hAc : lc ≤ (c + 1)
            · have hAk : k ≤ (c + 1) := by omega
              go_wp2_with (at_builtin; refine wpList_append_own _ rfl _ _ 28 rfl WZ.heap.size 47 i0 _ 4 40 Tryz.underlying28 hi hz0 hz1 hz2 rfl (by decide) _ _ _ rfl hown2 ⟨gl, 0, none⟩ _ _ (rlCells ((sortR (rs.take k)).drop (c + 1))) rfl ?c0cp (hTl2 0 (.inr (by omega))) (rlCells_one _) ?c3cp ?c4cp s2 ?_)
              case c0cp => (rw [hTn]) <;> (first | rfl | omega)
              case c3cp => unfold maxLen; omega
              try (case c4cp => omega)
              intro v3 w3 hown3 hgrow3 _
              have x3 : Ext WZ w3 := Below.grown x2 hgrow3 s2 (fun x hx => (hown2.lt x hx).1)
              have hR3 : Hid (RulesAt w3 v3 (sortR (rs.take (k + 1))) ∧ ∀ x, v3.ownBlock = some x → W.heap.size ≤ x) := Lib.hid (by
                refine ⟨?_, fun x hx => Nat.le_trans hxZ.size (hown3.lt x hx).1⟩
                have e0 : (rlCells (List.take (c + 1) (sortR (List.take k rs))) ++ (rlCells [⟨RRp, RRe, RRb, RRk⟩] ++ rlCells (List.drop (c + 1) (sortR (List.take k rs))))) = rlCells (sortR (rs.take (k + 1))) := by
                  rw [← hFin.out, rlCells_app, rlCells_app]; simp
                obtain ⟨N, h3⟩ : ∃ N, w3.ownsRow 0 47 4 v3 N (rlCells (List.take (c + 1) (sortR (List.take k rs))) ++ (rlCells [⟨RRp, RRe, RRb, RRk⟩] ++ rlCells (List.drop (c + 1) (sortR (List.take k rs))))) := ⟨_, owns_mono hown3 (Nat.zero_le _)⟩
                rw [e0] at h3
                have hN : N = (sortR (rs.take (k + 1))).length := by have := h3.1; rw [rlCells_len] at this; omega
                rw [hN] at h3
                exact ⟨fun h => by rw [← hFin.out] at h; simp at h, h3⟩)
              clear hown1 hown2 hown3 hgrow1 hgrow2 hgrow3 hTl hTl0 hHd hTl2 d0 d1 d2 d3 hHn hTn
              go_wp2
              go_roundw
              case rel => exact ⟨k + 1, by omega, by go_num, hR3, hxZ.trans x3⟩
              case measure => (simp [intOf]) <;> omega

            · go_wp2_with (at_builtin; refine wpList_append_own _ rfl _ _ 28 rfl WZ.heap.size 47 i0 _ 4 40 Tryz.underlying28 hi hz0 hz1 hz2 rfl (by decide) _ _ _ rfl hown2 ⟨gl, (c + 1) * 4, none⟩ _ _ (rlCells ((sortR (rs.take k)).drop (c + 1))) rfl ?c0dp (hTl2 _ (.inl rfl)) (rlCells_one _) ?c3dp ?c4dp s2 ?_)
              case c0dp => (rw [hTn]) <;> (first | rfl | omega)
              case c3dp => unfold maxLen; omega
              try (case c4dp => omega)
              intro v3 w3 hown3 hgrow3 _
              have x3 : Ext WZ w3 := Below.grown x2 hgrow3 s2 (fun x hx => (hown2.lt x hx).1)
              have hR3 : Hid (RulesAt w3 v3 (sortR (rs.take (k + 1))) ∧ ∀ x, v3.ownBlock = some x → W.heap.size ≤ x) := Lib.hid (by
                refine ⟨?_, fun x hx => Nat.le_trans hxZ.size (hown3.lt x hx).1⟩
                have e0 : (rlCells (List.take (c + 1) (sortR (List.take k rs))) ++ (rlCells [⟨RRp, RRe, RRb, RRk⟩] ++ rlCells (List.drop (c + 1) (sortR (List.take k rs))))) = rlCells (sortR (rs.take (k + 1))) := by
                  rw [← hFin.out, rlCells_app, rlCells_app]; simp
                obtain ⟨N, h3⟩ : ∃ N, w3.ownsRow 0 47 4 v3 N (rlCells (List.take (c + 1) (sortR (List.take k rs))) ++ (rlCells [⟨RRp, RRe, RRb, RRk⟩] ++ rlCells (List.drop (c + 1) (sortR (List.take k rs))))) := ⟨_, owns_mono hown3 (Nat.zero_le _)⟩
                rw [e0] at h3
                have hN : N = (sortR (rs.take (k + 1))).length := by have := h3.1; rw [rlCells_len] at this; omega
                rw [hN] at h3
                exact ⟨fun h => by rw [← hFin.out] at h; simp at h, h3⟩)
              clear hown1 hown2 hown3 hgrow1 hgrow2 hgrow3 hTl hTl0 hHd hTl2 d0 d1 d2 d3 hHn hTn
              go_wp2
              go_roundw
              case rel => exact ⟨k + 1, by omega, by go_num, hR3, hxZ.trans x3⟩
              case measure => (simp [intOf]) <;> omega

          · have hN := Lib.hid (hP.out.trans (hD.out rfl))
            clear r1 r2 r3 hD hSt hP
            go_wp2
            go_roundw
            case rel => exact ⟨c, by omega, by go_num, hN, hxq.trans hx9⟩
            case measure => (simp [intOf]) <;> omega
        · obtain rfl : a = 0 := by omega
          have hPos : Hid (posA (rs.getD k Rl0) (sortR (rs.take k)) k = 0) := Lib.hid hP.out
          clear hP
          by_cases hk0 : k = 0
          · have e0 : sortR (rs.take k) = [] := by rw [hk0]; rfl
            have hla : Value.slice la k lc = .slice none 0 0 := hLH.out.1.1 e0
            injection hla with q1 q2 q3
            subst q1 q3
            have hFin : Hid ([rs.getD k Rl0] = sortR (rs.take (k + 1))) := Lib.hid (by rw [take_snocR rs k hlt, sortR_snoc, e0]; rfl)
            have hRZ := hvH.out.ext (xW.trans (hx.trans hxq))
            have hxZ := hx.trans hxq
            obtain ⟨d0, d1, d2, d3⟩ := RulesAt.cells hRZ hlt
            generalize hRR : rs.getD k Rl0 = RR at *
            obtain ⟨RRp, RRe, RRb, RRk⟩ := RR
            simp only at d0 d1 d2 d3
            obtain ⟨PS, ePS⟩ : ∃ PS, strOf RRp = PS := ⟨_, rfl⟩
            rw [ePS] at d0
            clear hRZ a1r e0 hLn hRR hLH hlfH
            subst hk0
            go_wp2
            go_region
            go_wp2_with (at_builtin; refine wpList_append_own _ rfl _ _ 28 rfl W.heap.size 47 i0 _ 4 40 Tryz.underlying28 hi hz0 hz1 hz2 rfl (by decide) (.slice none 0 0) 0 [] rfl (World.ownsRow_nil _ _ _ _) ⟨wr.heap.size, 0, none⟩ 1 1 (rlCells [⟨RRp, RRe, RRb, RRk⟩]) rfl rfl ?c1z ?c2z ?c3z ?c4z ?c5z ?_)
            case c1z => first | exact cells_new _ _ _ _ (by simp [rlCells, ePS]) | (intro q u h; simpa [rlCells, ePS] using h)
            case c2z => exact rlCells_one _
            case c3z => unfold maxLen; omega
            try (case c4z => omega)
            case c5z => exact (hxZ.alloc _).size
            intro v3 w3 hown3 hgrow3 _
            have x3 : Ext W w3 := Below.grown (hxZ.alloc _).drew hgrow3 (hxZ.alloc _).drew.size (by rintro x hx; simp [Value.ownBlock] at hx)
            have hR3 : Hid (RulesAt w3 v3 (sortR (rs.take (0 + 1))) ∧ ∀ x, v3.ownBlock = some x → W.heap.size ≤ x) := Lib.hid (by
              refine ⟨?_, fun x hx => (hown3.lt x hx).1⟩
              rw [← hFin.out]
              exact ⟨fun h => by simp at h, owns_mono hown3 (Nat.zero_le _)⟩)
            obtain ⟨va3, vc3, rfl⟩ := own_slice hown3
            clear hgrow3
            go_wp2_with (at_builtin; refine wpList_append_own_none rfl _ _ 28 rfl W.heap.size 47 i0 4 Tryz.underlying28 hi _ _ _ rfl hown3 rfl ?_)
            go_roundw
            case rel => exact ⟨0 + 1, by omega, by go_num, hR3, x3⟩
            case measure => (simp [intOf]) <;> omega
          · obtain ⟨gl, ela, hgl, hlc, hlm⟩ := hlfH.out (fun e => by rw [e] at hLn; simp at hLn; omega)
            subst ela
            clear a1r
            go_wp2
            go_region
            obtain ⟨WZ, eWZ⟩ : ∃ WZ, wr.drew = WZ := ⟨_, rfl⟩
            have hxZ : Ext W WZ := by subst eWZ; exact (hx.trans hxq).drew
            have hLZ : RulesAt WZ (.slice (some ⟨gl, 0, none⟩) k lc) (sortR (rs.take k)) := by subst eWZ; exact hLH.out.1.ext hxq.drew
            rw [eWZ]
            clear eWZ
            have hRZ := hvH.out.ext (xW.trans hxZ)
            have a1z := hxZ.reads a1
            obtain ⟨d0, d1, d2, d3⟩ := RulesAt.cells hRZ hlt
            have hHd := hLZ.heads (0)
            have hTl := hLZ.tails (0)
            have hTl0 := hLZ.heads 0
            have hHn : (rlCells ((sortR (rs.take k)).take (0))).length = (0) * 4 := by rw [rlCells_len, List.length_take, hLn, Nat.min_eq_left (by omega)]
            have hTn : (rlCells ((sortR (rs.take k)).drop (0))).length = (k - (0)) * 4 := by rw [rlCells_len, List.length_drop, hLn]
            have hFin : Hid ((sortR (rs.take k)).take (0) ++ [rs.getD k Rl0] ++ (sortR (rs.take k)).drop (0) = sortR (rs.take (k + 1))) := Lib.hid (by
              rw [take_snocR rs k hlt, sortR_snoc]; unfold insA; rw [hLn, hPos.out]; simp)
            have hRk := Lib.hid (show ∀ x : Rl, x = rs.getD k Rl0 → [x] = [rs.getD k Rl0] from fun x h => by rw [h])
            generalize hRR : rs.getD k Rl0 = RR at *
            obtain ⟨RRp, RRe, RRb, RRk⟩ := RR
            simp only at d0 d1 d2 d3
            obtain ⟨PS, ePS⟩ : ∃ PS, strOf RRp = PS := ⟨_, rfl⟩
            rw [ePS] at d0
            clear hLZ hRZ
            go_wp2_with (at_builtin; refine wpList_append_own _ rfl _ _ 28 rfl WZ.heap.size 47 i0 _ 4 40 Tryz.underlying28 hi hz0 hz1 hz2 rfl (by decide) (.slice none 0 0) 0 [] rfl (World.ownsRow_nil _ _ _ _) ⟨gl, 0, none⟩ (0) lc (rlCells ((sortR (rs.take k)).take (0))) rfl hHn hHd (rlCells_one _) ?c3az ?c4az (Nat.le_refl _) ?_)
            case c3az => unfold maxLen; omega
            try (case c4az => omega)
            intro v1 w1 hown1 hgrow1 _
            obtain ⟨va1, vc1, rfl⟩ := own_slice hown1
            have x1 : Ext WZ w1 := Below.grown (Ext.refl WZ) hgrow1 (Nat.le_refl _) (by rintro x hx; simp [Value.ownBlock] at hx)
            have a1y := x1.reads a1z
            have d0 := x1.reads d0
            have d1 := x1.reads d1
            have d2 := x1.reads d2
            have d3 := x1.reads d3
            have s1 := x1.size
            go_wp2_with (at_builtin; refine wpList_append_own _ rfl _ _ 28 rfl WZ.heap.size 47 i0 _ 4 40 Tryz.underlying28 hi hz0 hz1 hz2 rfl (by decide) _ _ _ rfl (hown1.alloc _) ⟨w1.heap.size, 0, none⟩ 1 1 (rlCells [⟨RRp, RRe, RRb, RRk⟩]) rfl rfl ?c1bz ?c2bz ?c3bz ?c4bz ?c5bz ?_)
            case c1bz => first | exact cells_new _ _ _ _ (by simp [rlCells, ePS]) | (intro q u h; simpa [rlCells, ePS] using h)
            case c2bz => exact rlCells_one _
            case c3bz => unfold maxLen; omega
            try (case c4bz => omega)
            case c5bz => simp <;> omega
            intro v2 w2 hown2 hgrow2 _
            obtain ⟨va2, vc2, rfl⟩ := own_slice hown2
            have x2 : Ext WZ w2 := Below.grown (x1.alloc _) hgrow2 (x1.alloc _).size (fun x hx => (hown1.lt x hx).1)
            have s2 := x2.size
            have hTl2 : ∀ (o : Nat), o = (0) * 4 ∨ (0) = k → ∀ j u, (rlCells ((sortR (rs.take k)).drop (0)))[j]? = some u → w2.cell? ((⟨gl, o, none⟩ : Addr).add j) = some u := by
              intro o ho j u hu
              rcases ho with rfl | hk2
              · exact x2.reads (hTl j u hu)
              · have : (rlCells ((sortR (rs.take k)).drop (0))) = [] := List.eq_nil_of_length_eq_zero (by rw [hTn]; omega)
                rw [this] at hu; simp at hu
            by_cases hAc : lc ≤ (0)
            · exact absurd hAc (by omega)
            · go_wp2_with (at_builtin; refine wpList_append_own _ rfl _ _ 28 rfl WZ.heap.size 47 i0 _ 4 40 Tryz.underlying28 hi hz0 hz1 hz2 rfl (by decide) _ _ _ rfl hown2 ⟨gl, 0, none⟩ _ _ (rlCells ((sortR (rs.take k)).drop (0))) rfl ?c0dz (hTl2 0 (.inl rfl)) (rlCells_one _) ?c3dz ?c4dz s2 ?_)
              case c0dz => (rw [hTn]) <;> (first | rfl | omega)
              case c3dz => unfold maxLen; omega
              try (case c4dz => omega)
              intro v3 w3 hown3 hgrow3 _
              have x3 : Ext WZ w3 := Below.grown x2 hgrow3 s2 (fun x hx => (hown2.lt x hx).1)
              have hR3 : Hid (RulesAt w3 v3 (sortR (rs.take (k + 1))) ∧ ∀ x, v3.ownBlock = some x → W.heap.size ≤ x) := Lib.hid (by
                refine ⟨?_, fun x hx => Nat.le_trans hxZ.size (hown3.lt x hx).1⟩
                have e0 : (rlCells (List.take (0) (sortR (List.take k rs))) ++ (rlCells [⟨RRp, RRe, RRb, RRk⟩] ++ rlCells (List.drop (0) (sortR (List.take k rs))))) = rlCells (sortR (rs.take (k + 1))) := by
                  rw [← hFin.out, rlCells_app, rlCells_app]; simp
                obtain ⟨N, h3⟩ : ∃ N, w3.ownsRow 0 47 4 v3 N (rlCells (List.take (0) (sortR (List.take k rs))) ++ (rlCells [⟨RRp, RRe, RRb, RRk⟩] ++ rlCells (List.drop (0) (sortR (List.take k rs))))) := ⟨_, owns_mono hown3 (Nat.zero_le _)⟩
                rw [e0] at h3
                have hN : N = (sortR (rs.take (k + 1))).length := by have := h3.1; rw [rlCells_len] at this; omega
                rw [hN] at h3
                exact ⟨fun h => by rw [← hFin.out] at h; simp at h, h3⟩)
              clear hown1 hown2 hown3 hgrow1 hgrow2 hgrow3 hTl hTl0 hHd hTl2 d0 d1 d2 d3 hHn hTn
              go_wp2
              go_roundw
              case rel => exact ⟨k + 1, by omega, by go_num, hR3, hxZ.trans x3⟩
              case measure => (simp [intOf]) <;> omega

    · obtain rfl : k = rs.length := by omega
      have hL2 : Hid (RulesAt wr u3 (sortR rs) ∧ ∀ x, u3.ownBlock = some x → W.heap.size ≤ x) := Lib.hid (by have := hL.out; rwa [List.take_length] at this)
      obtain ⟨la, lc, rfl, hlf⟩ := hL2.out.1.form
      have a0r := hx.reads a0
      have f1r := hx.free a1 f1
      have b0r := hx.reads b0
      have b1r := hx.reads b1
      have g0r := hx.free b0 g0
      have g1r := hx.free b1 g1
      clear hL hlf
      generalize (sortR rs).length = N at *
      have hxw := xW.trans hx
      have hs2 : w.heap.size + 2 ≤ wr.heap.size := by have := hx.size; omega
      go_wp2
      refine bodyPost_ret (v := .agg #[.int .i64 most, .slice la N lc]) (by simp [results, Tryz.results23, go_sem, b0r, b1r]) rfl ⟨_, rfl, ?_, by repeat (first | exact Ext.refl _ | assumption | apply Ext.drew | apply Ext.alloc | (refine Ext.setCell ?_ (by simp <;> omega) _) | refine Ext.trans ?_ (by assumption))⟩
      have hB : But (fun x => x = w.heap.size ∨ x = w.heap.size + 1) wr (((wr.setCell ⟨w.heap.size, 1, none⟩ (.slice la N lc)).setCell ⟨w.heap.size + 1, 0, none⟩ (.int .i64 most)).setCell ⟨w.heap.size + 1, 1, none⟩ (.slice la N lc)) :=
        (((But.refl (fun x => x = w.heap.size ∨ x = w.heap.size + 1) wr).setCell (.inl rfl) _).setCell (.inr rfl) _).setCell (.inr rfl) _
      exact ⟨hL2.out.1.1, hB.owns hL2.out.1.2 (fun x hx => by have := hL2.out.2 x hx; omega)⟩

end Go.Proofs.YtdgcgpapcbjfhaaGreatDoor
