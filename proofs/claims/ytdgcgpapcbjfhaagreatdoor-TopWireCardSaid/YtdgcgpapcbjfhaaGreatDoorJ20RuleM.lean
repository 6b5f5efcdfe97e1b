/- The map of a rule's parts. -/
import Derived.Test.YtdgcgpapcbjfhaaGreatDoorJ13RuleRW
import Derived.Deep.RegionHeld3
import Derived.Laws.EntriesVeiled
import Derived.MapKept
import Derived.Carry
set_option linter.unusedVariables false
set_option linter.unusedSimpArgs false

/- One rule out of words, by the program: its parts. -/
namespace Go.Proofs.YtdgcgpapcbjfhaaGreatDoor
open Go.RowKit

/-- a rule in its box -/
structure RBox (w : World) (br : Nat) (r : Rl) : Prop where
  c0 : w.cell? ⟨br, 0, none⟩ = some (.string (strOf r.pre))
  c1 : w.cell? ⟨br, 1, none⟩ = some (.int .u64 r.ev)
  c2 : w.cell? ⟨br, 2, none⟩ = some (.int .u64 r.bu)
  c3 : w.cell? ⟨br, 3, none⟩ = some (.int .u8 (r.kd : Int))
  f0 : w.frozen? ⟨br, 0, none⟩ = false
  f1 : w.frozen? ⟨br, 1, none⟩ = false
  f2 : w.frozen? ⟨br, 2, none⟩ = false
  f3 : w.frozen? ⟨br, 3, none⟩ = false
theorem RBox.ext {w w' : World} {br : Nat} {r : Rl} (h : RBox w br r) (hx : Ext w w') : RBox w' br r :=
  ⟨hx.reads h.c0, hx.reads h.c1, hx.reads h.c2, hx.reads h.c3, hx.free h.c0 h.f0, hx.free h.c1 h.f1, hx.free h.c2 h.f2, hx.free h.c3 h.f3⟩
theorem addr_ne {b i j : Nat} (h : i ≠ j) : (⟨b, i, none⟩ : Addr) ≠ ⟨b, j, none⟩ := fun e => h (congrArg Addr.off e)
theorem RBox.set0 {w : World} {br : Nat} {r : Rl} (h : RBox w br r) (t : List UInt8) : RBox (w.setCell ⟨br, 0, none⟩ (.string (strOf t))) br { r with pre := t } :=
  ⟨World.cell?_setCell_same _ _ _ h.c0, by rw [World.cell?_setCell_other (h := addr_ne (by decide))]; exact h.c1, by rw [World.cell?_setCell_other (h := addr_ne (by decide))]; exact h.c2, by rw [World.cell?_setCell_other (h := addr_ne (by decide))]; exact h.c3, by simpa using h.f0, by simpa using h.f1, by simpa using h.f2, by simpa using h.f3⟩
theorem RBox.set1 {w : World} {br : Nat} {r : Rl} (h : RBox w br r) (v : Int) : RBox (w.setCell ⟨br, 1, none⟩ (.int .u64 v)) br { r with ev := v } :=
  ⟨by rw [World.cell?_setCell_other (h := addr_ne (by decide))]; exact h.c0, World.cell?_setCell_same _ _ _ h.c1, by rw [World.cell?_setCell_other (h := addr_ne (by decide))]; exact h.c2, by rw [World.cell?_setCell_other (h := addr_ne (by decide))]; exact h.c3, by simpa using h.f0, by simpa using h.f1, by simpa using h.f2, by simpa using h.f3⟩
theorem RBox.set2 {w : World} {br : Nat} {r : Rl} (h : RBox w br r) (v : Int) : RBox (w.setCell ⟨br, 2, none⟩ (.int .u64 v)) br { r with bu := v } :=
  ⟨by rw [World.cell?_setCell_other (h := addr_ne (by decide))]; exact h.c0, by rw [World.cell?_setCell_other (h := addr_ne (by decide))]; exact h.c1, World.cell?_setCell_same _ _ _ h.c2, by rw [World.cell?_setCell_other (h := addr_ne (by decide))]; exact h.c3, by simpa using h.f0, by simpa using h.f1, by simpa using h.f2, by simpa using h.f3⟩
theorem RBox.set3 {w : World} {br : Nat} {r : Rl} (h : RBox w br r) (v : Nat) : RBox (w.setCell ⟨br, 3, none⟩ (.int .u8 (v : Int))) br { r with kd := v } :=
  ⟨by rw [World.cell?_setCell_other (h := addr_ne (by decide))]; exact h.c0, by rw [World.cell?_setCell_other (h := addr_ne (by decide))]; exact h.c1, by rw [World.cell?_setCell_other (h := addr_ne (by decide))]; exact h.c2, World.cell?_setCell_same _ _ _ h.c3, by simpa using h.f0, by simpa using h.f1, by simpa using h.f2, by simpa using h.f3⟩

theorem pToE (br : Nat) (w : World) : Calls Tryz.prog 81 #[.pointer (some ⟨br, 0, none⟩)] w fun e w' => e = .returned (.pointer (some ⟨br, 1, none⟩)) ∧ w = w' := by
  go_enter Tryz.func81, Tryz.ntmps81
  go_wp2
  go_ret
  exact ⟨rfl, rfl⟩
theorem pToB (br : Nat) (w : World) : Calls Tryz.prog 115 #[.pointer (some ⟨br, 0, none⟩)] w fun e w' => e = .returned (.pointer (some ⟨br, 2, none⟩)) ∧ w = w' := by
  go_enter Tryz.func115, Tryz.ntmps115
  go_wp2
  go_ret
  exact ⟨rfl, rfl⟩

theorem ret_u16 {a b : Int} (h : a = b) : Ending.returned (.int .u16 a) = .returned (.int .u16 b) := by rw [h]

set_option maxRecDepth 100000 in
/-- rule.number's closure: the field at place i -/
theorem pNumE (none : Int) (hn : none = 24 ∨ none = 25) (br b2 b3 : Nat) (t : List UInt8) (ht : t.length ≤ 1000000) (v0 : Int) (w : World)
    (c2 : w.cell? ⟨b2, 0, Option.none⟩ = some (.func (.func 81) #[] #[])) (c3 : w.cell? ⟨b3, 0, Option.none⟩ = some (.int .u16 none)) (ci : w.cell? ⟨br, 1, Option.none⟩ = some (.int .u64 v0)) (fi : w.frozen? ⟨br, 1, Option.none⟩ = false) (h3 : b3 ≠ br) :
    Calls Tryz.prog 114 #[.pointer (some ⟨br, 0, Option.none⟩), .string (strOf t), .pointer (some ⟨b2, 0, Option.none⟩), .pointer (some ⟨b3, 0, Option.none⟩)] w fun e w' => e = .returned (.int .u16 (numE t none)) ∧ w' = w.setCell ⟨br, 1, Option.none⟩ (.int .u64 (dV t)) := by
  have hD := dParseP (strOf t) (by rw [← bs_length, bs_strOf]; unfold maxLen; omega)
  rw [bs_strOf] at hD
  have hE : Hid (numE t none = if dE t = 0 ∧ dV t = 0 then none else dE t) := Lib.hid rfl
  have hT : ∀ W, Calls Tryz.prog 81 #[.pointer (some ⟨br, 0, Option.none⟩)] W fun e w' => e = .returned (.pointer (some ⟨br, 1, Option.none⟩)) ∧ W = w' := by
    exact pToE br
  obtain ⟨r, er⟩ : ∃ r, numE t none = r := ⟨_, rfl⟩
  rw [er] at hE ⊢
  clear er
  generalize dE t = E at *
  generalize dV t = V at *
  generalize strOf t = S at *
  have c3' : (w.setCell ⟨br, 1, Option.none⟩ (.int .u64 V)).cell? ⟨b3, 0, Option.none⟩ = some (.int .u16 none) := by
    rw [World.cell?_setCell_other (h := fun e => h3 (congrArg Addr.block e).symm)]; exact c3
  by_cases h0 : E = 0
  · by_cases hv : V = 0
    · subst h0 hv
      obtain rfl : r = none := by rw [hE.out]; simp
      clear hE
      go_enter Tryz.func114, Tryz.ntmps114
      go_wp2_with fail
      refine (hD _).mono ?_
      rintro e w1 ⟨rfl, rfl⟩
      go_wp2_with fail
      refine (hT _).mono ?_
      rintro e w1 ⟨rfl, rfl⟩
      go_wp2
      go_ret
      exact ⟨rfl, rfl⟩
    · subst h0
      obtain rfl : r = 0 := by rw [hE.out]; simp [hv]
      have hv' : (V == 0) = false := beq_eq_false_iff_ne.2 hv
      clear hE
      go_enter Tryz.func114, Tryz.ntmps114
      go_wp2_with fail
      refine (hD _).mono ?_
      rintro e w1 ⟨rfl, rfl⟩
      go_wp2_with fail
      refine (hT _).mono ?_
      rintro e w1 ⟨rfl, rfl⟩
      go_wp2
      go_ret
      exact ⟨rfl, rfl⟩
  · obtain rfl : r = E := by rw [hE.out]; simp [h0]
    have h0' : (r == 0) = false := beq_eq_false_iff_ne.2 h0
    clear hE
    go_enter Tryz.func114, Tryz.ntmps114
    go_wp2_with fail
    refine (hD _).mono ?_
    rintro e w1 ⟨rfl, rfl⟩
    go_wp2_with fail
    refine (hT _).mono ?_
    rintro e w1 ⟨rfl, rfl⟩
    go_wp2
    go_ret
    exact ⟨rfl, rfl⟩

set_option maxRecDepth 100000 in
/-- rule.number's closure: the field at place i -/
theorem pNumB (none : Int) (hn : none = 24 ∨ none = 25) (br b2 b3 : Nat) (t : List UInt8) (ht : t.length ≤ 1000000) (v0 : Int) (w : World)
    (c2 : w.cell? ⟨b2, 0, Option.none⟩ = some (.func (.func 115) #[] #[])) (c3 : w.cell? ⟨b3, 0, Option.none⟩ = some (.int .u16 none)) (ci : w.cell? ⟨br, 2, Option.none⟩ = some (.int .u64 v0)) (fi : w.frozen? ⟨br, 2, Option.none⟩ = false) (h3 : b3 ≠ br) :
    Calls Tryz.prog 114 #[.pointer (some ⟨br, 0, Option.none⟩), .string (strOf t), .pointer (some ⟨b2, 0, Option.none⟩), .pointer (some ⟨b3, 0, Option.none⟩)] w fun e w' => e = .returned (.int .u16 (numE t none)) ∧ w' = w.setCell ⟨br, 2, Option.none⟩ (.int .u64 (dV t)) := by
  have hD := dParseP (strOf t) (by rw [← bs_length, bs_strOf]; unfold maxLen; omega)
  rw [bs_strOf] at hD
  have hE : Hid (numE t none = if dE t = 0 ∧ dV t = 0 then none else dE t) := Lib.hid rfl
  have hT : ∀ W, Calls Tryz.prog 115 #[.pointer (some ⟨br, 0, Option.none⟩)] W fun e w' => e = .returned (.pointer (some ⟨br, 2, Option.none⟩)) ∧ W = w' := by
    exact pToB br
  obtain ⟨r, er⟩ : ∃ r, numE t none = r := ⟨_, rfl⟩
  rw [er] at hE ⊢
  clear er
  generalize dE t = E at *
  generalize dV t = V at *
  generalize strOf t = S at *
  have c3' : (w.setCell ⟨br, 2, Option.none⟩ (.int .u64 V)).cell? ⟨b3, 0, Option.none⟩ = some (.int .u16 none) := by
    rw [World.cell?_setCell_other (h := fun e => h3 (congrArg Addr.block e).symm)]; exact c3
  by_cases h0 : E = 0
  · by_cases hv : V = 0
    · subst h0 hv
      obtain rfl : r = none := by rw [hE.out]; simp
      clear hE
      go_enter Tryz.func114, Tryz.ntmps114
      go_wp2_with fail
      refine (hD _).mono ?_
      rintro e w1 ⟨rfl, rfl⟩
      go_wp2_with fail
      refine (hT _).mono ?_
      rintro e w1 ⟨rfl, rfl⟩
      go_wp2
      go_ret
      exact ⟨rfl, rfl⟩
    · subst h0
      obtain rfl : r = 0 := by rw [hE.out]; simp [hv]
      have hv' : (V == 0) = false := beq_eq_false_iff_ne.2 hv
      clear hE
      go_enter Tryz.func114, Tryz.ntmps114
      go_wp2_with fail
      refine (hD _).mono ?_
      rintro e w1 ⟨rfl, rfl⟩
      go_wp2_with fail
      refine (hT _).mono ?_
      rintro e w1 ⟨rfl, rfl⟩
      go_wp2
      go_ret
      exact ⟨rfl, rfl⟩
  · obtain rfl : r = E := by rw [hE.out]; simp [h0]
    have h0' : (r == 0) = false := beq_eq_false_iff_ne.2 h0
    clear hE
    go_enter Tryz.func114, Tryz.ntmps114
    go_wp2_with fail
    refine (hD _).mono ?_
    rintro e w1 ⟨rfl, rfl⟩
    go_wp2_with fail
    refine (hT _).mono ?_
    rintro e w1 ⟨rfl, rfl⟩
    go_wp2
    go_ret
    exact ⟨rfl, rfl⟩

theorem pNumber (F : Nat) (none : Int) (w : World) :
    Calls Tryz.prog 80 #[.func (.func F) #[] #[], .int .u16 none] w fun e w' => e = .returned (.func (.func 114) #[] #[.pointer (some ⟨w.heap.size, 0, Option.none⟩), .pointer (some ⟨w.heap.size + 1, 0, Option.none⟩)]) ∧
      w'.cell? ⟨w.heap.size, 0, Option.none⟩ = some (.func (.func F) #[] #[]) ∧ w'.cell? ⟨w.heap.size + 1, 0, Option.none⟩ = some (.int .u16 none) ∧ Ext w w' := by
  go_enter Tryz.func80, Tryz.ntmps80
  go_wp2
  go_ret
  exact ⟨rfl, by go_simp, by go_simp, by repeat (first | exact Ext.refl _ | assumption | apply Ext.drew | apply Ext.alloc | (refine Ext.setCell ?_ (by simp <;> omega) _) | refine Ext.trans ?_ (by assumption))⟩

set_option maxRecDepth 100000 in
set_option maxHeartbeats 1600000 in
theorem pBurst (br : Nat) (r : Rl) (t : List UInt8) (ht : t.length ≤ 1000000) (hev : U r.ev) (w : World) (hb : RBox w br r) :
    Calls Tryz.prog 82 #[.pointer (some ⟨br, 0, none⟩), .string (strOf t)] w fun e w' => e = .returned (.int .u16 (burE r.ev t)) ∧ RBox w' br { r with bu := dV t } ∧ But (fun x => x = br) w w' := by
  have hbE : Hid (burE r.ev t = if numE t 25 = 0 ∧ 4611686018427387904 < umul r.ev (dV t) then 26 else numE t 25) := Lib.hid rfl
  have hmu := nMul r.ev (dV t) hev (dV_U t)
  have hbr : br < w.heap.size := World.block_lt_of_cell? w _ hb.c0
  have hN := pNumber 115 25 w
  have hfin : ∀ W, Ext w W → W.cell? ⟨w.heap.size, 0, none⟩ = some (.func (.func 115) #[] #[]) → W.cell? ⟨w.heap.size + 1, 0, none⟩ = some (.int .u16 25) → Calls Tryz.prog 114 #[.pointer (some ⟨br, 0, none⟩), .string (strOf t), .pointer (some ⟨w.heap.size, 0, none⟩), .pointer (some ⟨w.heap.size + 1, 0, none⟩)] W fun e w' => e = .returned (.int .u16 (numE t 25)) ∧ RBox w' br { r with bu := dV t } ∧ But (fun x => x = br) w w' := by
    intro W hx h1 h2
    have hB := hb.ext hx
    refine (pNumB 25 (.inr rfl) br w.heap.size (w.heap.size + 1) t ht r.bu W h1 h2 hB.c2 hB.f2 (by omega)).mono ?_
    rintro e w' ⟨rfl, rfl⟩
    exact ⟨rfl, hB.set2 _, (But.of_ext (S := fun x => x = br) hx).setCell (p := ⟨br, 2, none⟩) rfl _⟩
  clear hb
  obtain ⟨R, eR⟩ : ∃ R, ({ r with bu := dV t } : Rl) = R := ⟨_, rfl⟩
  have eR1 : R.ev = r.ev := by rw [← eR]
  have eR2 : R.bu = dV t := by rw [← eR]
  rw [eR] at hfin ⊢
  have hEV : Hid (R.ev = r.ev ∧ R.bu = dV t) := Lib.hid ⟨eR1, eR2⟩
  rw [← eR1, ← eR2] at hmu
  rw [← eR1, ← eR2] at hbE
  rw [← eR1]
  clear eR eR1 eR2 hEV
  generalize burE R.ev t = F at *
  generalize numE t 25 = E at *
  generalize umul R.ev R.bu = M at *
  generalize strOf t = S at *
  go_enter Tryz.func82, Tryz.ntmps82
  go_wp2_with fail
  refine hN.mono ?_
  rintro e w1 ⟨rfl, b2, b3, hx1⟩
  clear hN
  go_wp2_with fail
  refine (hfin _ hx1 b2 b3).mono ?_
  rintro e w2 ⟨rfl, hB2, hbut⟩
  clear hfin b2 b3 hx1
  by_cases h0 : E = 0
  · subst h0
    have r1 : ∀ w', Ext w2 w' → w'.cell? ⟨br, 1, none⟩ = some (.int .u64 R.ev) := fun w' hz => hz.reads hB2.c1
    have r2 : ∀ w', Ext w2 w' → w'.cell? ⟨br, 2, none⟩ = some (.int .u64 R.bu) := fun w' hz => hz.reads hB2.c2
    have hB2H := Lib.hid hB2
    clear hB2
    by_cases hm : 4611686018427387904 < M
    · obtain rfl : F = 26 := by rw [hbE.out]; simp [hm]
      clear hbE
      go_wp2
      go_region_held3 (Ext w2)
        (first
          | exact Ext.trans (by assumption) hb
          | repeat (first | exact Ext.refl _ | assumption | apply Ext.drew | apply Ext.alloc | (refine Ext.setCell ?_ (by simp <;> omega) _) | refine Ext.trans ?_ (by assumption)))
        ((go_at_call 116; refine (hmu _).mono ?_; rintro e w9 ⟨rfl, hb⟩))
      have hx9 : Ext w2 w9 := by assumption
      go_wp2
      go_ret
      exact ⟨rfl, hB2H.out.ext hx9, hbut.trans (But.of_ext hx9)⟩
    · obtain rfl : F = 0 := by rw [hbE.out]; simp [hm]
      clear hbE
      go_wp2
      go_region_held3 (Ext w2)
        (first
          | exact Ext.trans (by assumption) hb
          | repeat (first | exact Ext.refl _ | assumption | apply Ext.drew | apply Ext.alloc | (refine Ext.setCell ?_ (by simp <;> omega) _) | refine Ext.trans ?_ (by assumption)))
        ((go_at_call 116; refine (hmu _).mono ?_; rintro e w9 ⟨rfl, hb⟩))
      have hx9 : Ext w2 w9 := by assumption
      go_wp2
      go_ret
      exact ⟨rfl, hB2H.out.ext hx9, hbut.trans (But.of_ext hx9)⟩
  · obtain rfl : F = E := by rw [hbE.out]; simp [h0]
    have h0' : (F == 0) = false := beq_eq_false_iff_ne.2 h0
    clear hbE
    go_wp2
    go_region
    go_wp2
    go_ret
    exact ⟨rfl, hB2.ext (by repeat (first | exact Ext.refl _ | assumption | apply Ext.drew | apply Ext.alloc | (refine Ext.setCell ?_ (by simp <;> omega) _) | refine Ext.trans ?_ (by assumption))), hbut.drew⟩

theorem pPrefix (br : Nat) (r : Rl) (t : List UInt8) (w : World) (hb : RBox w br r) :
    Calls Tryz.prog 84 #[.pointer (some ⟨br, 0, none⟩), .string (strOf t)] w fun e w' => e = .returned (.int .u16 (if kRight t then 0 else 23)) ∧ RBox w' br { r with pre := t } ∧ But (fun x => x = br) w w' := by
  have hK := pKey (strOf t)
  rw [bs_strOf] at hK
  have hS := hb.set0 t
  have c0 := hb.c0
  have f0 := hb.f0
  clear hb
  obtain ⟨W, eW⟩ : ∃ W, w.setCell ⟨br, 0, none⟩ (.string (strOf t)) = W := ⟨_, rfl⟩
  have hB : But (fun x => x = br) w W := by rw [← eW]; exact (But.refl (fun x => x = br) w).setCell rfl _
  rw [eW] at hS
  generalize strOf r.pre = P0 at *
  generalize kRight t = K at *
  generalize ({ r with pre := t } : Rl) = R at *
  generalize strOf t = S at *
  go_enter Tryz.func84, Tryz.ntmps84
  go_wp2_with fail
  refine (hK _).mono ?_
  rintro e w1 ⟨rfl, hx⟩
  cases K
  · go_wp2
    go_ret
    exact ⟨rfl, hS.ext hx, hB.trans (But.of_ext hx)⟩
  · go_wp2
    go_ret
    exact ⟨rfl, hS.ext hx, hB.trans (But.of_ext hx)⟩

end Go.Proofs.YtdgcgpapcbjfhaaGreatDoor

/- A kernel's name, by the program. -/
namespace Go.Proofs.YtdgcgpapcbjfhaaGreatDoor
open Go.RowKit

theorem ret_i64k {a b : Int} (h : a = b) : Ending.returned (.int .i64 a) = .returned (.int .i64 b) := by rw [h]

theorem pNames (w : World) :
    Calls Tryz.prog 153 #[] w fun e w' => e = .returned (.agg #[.string ⟨#[]⟩, .string (nameS 1), .string (nameS 2), .string (nameS 3)]) ∧ Ext w w' := by
  go_enter Tryz.func153, Tryz.ntmps153
  go_wp2
  refine bodyPost_ret (v := .agg #[.string ⟨#[]⟩, .string (nameS 1), .string (nameS 2), .string (nameS 3)]) (by simp [results, Tryz.results153, go_sem, nameS]) rfl ⟨rfl, ?_⟩
  repeat (first | exact Ext.refl _ | assumption | apply Ext.drew | apply Ext.alloc | (refine Ext.setCell ?_ (by simp <;> omega) _) | refine Ext.trans ?_ (by assumption))

set_option maxHeartbeats 800000 in
theorem pIndexK (t : List UInt8) (g : Nat) (w : World) (hc : ∀ j, 1 ≤ j → j ≤ 3 → w.cell? ⟨g, j, none⟩ = some (.string (nameS j))) :
    Calls Tryz.prog 154 #[.slice (some ⟨g, 1, none⟩) 3 3, .string (strOf t)] w fun e w' => e = .returned (.int .i64 ((kindN t : Int) - 1)) ∧ w = w' := by
  have hB : ∀ k, ((strOf t).toList == (nameS k).toList) = isName t k := fun k => by rw [← name_beq]; rw [Bool.eq_iff_iff, beq_iff_eq, beq_iff_eq]; exact eq_comm
  have hK := Lib.hid (kindN_eq t)
  have hC := Lib.hid hc
  clear hc
  generalize kindN t = K at *
  generalize strOf t = s at *
  obtain ⟨f, hf⟩ : ∃ f, isName t = f := ⟨_, rfl⟩
  rw [hf] at hB hK
  clear hf
  generalize nameS = N at *
  go_enter Tryz.func154, Tryz.ntmps154
  go_wp2
  go_loop [5, 8] (fun _ i => ∃ k : Nat, k ≤ 3 ∧ i = .int .i64 k ∧ Hid (∀ j, 1 ≤ j → j < k + 1 → f j = false)) (fun _ i => 4 - (intOf i).toNat)
  case atStart => exact ⟨0, by omega, rfl, Lib.hid (fun j h1 h2 => by omega)⟩
  case round =>
    obtain ⟨k, h4, rfl, hI⟩ := hrel
    by_cases hlt : k < 3
    · have hBk := hB (k + 1)
      have hcell : w.cell? ⟨g, 1 + k, none⟩ = some (.string (N (k + 1))) := by rw [Nat.add_comm 1 k]; exact hC.out (k + 1) (by omega) (by omega)
      obtain ⟨b, eb⟩ : ∃ b, f (k + 1) = b := ⟨_, rfl⟩
      rw [eb] at hBk
      have ebH := Lib.hid eb
      clear eb hB
      cases b
      · have hJ : Hid (∀ j, 1 ≤ j → j < k + 1 + 1 → f j = false) := Lib.hid (fun j a b => by
          by_cases hj : j = k + 1
          · subst hj; exact ebH.out
          · exact hI.out j a (by omega))
        clear hI ebH
        go_wp2
        go_round
        case rel => exact ⟨k + 1, by omega, by go_num, hJ⟩
        case measure => (simp [intOf]) <;> omega
      · have hKK : Hid (K = k + 1) := Lib.hid (by
          rw [hK.out]
          have := hI.out
          have hc : k = 0 ∨ k = 1 ∨ k = 2 := by omega
          rcases hc with rfl | rfl | rfl
          · rw [ebH.out]; rfl
          · rw [this 1 (by omega) (by omega), ebH.out]; rfl
          · rw [this 1 (by omega) (by omega), this 2 (by omega) (by omega), ebH.out]; rfl)
        clear hI ebH
        go_wp2
        go_ret
        exact ⟨ret_i64k (by rw [hKK.out]; omega), rfl⟩
    · obtain rfl : k = 3 := by omega
      have hKK : Hid (K = 0) := Lib.hid (by
        rw [hK.out, hI.out 1 (by omega) (by omega), hI.out 2 (by omega) (by omega), hI.out 3 (by omega) (by omega)]; rfl)
      clear hI
      go_wp2
      go_ret
      exact ⟨ret_i64k (by rw [hKK.out]; rfl), rfl⟩

theorem kindN_le (t : List UInt8) : kindN t ≤ 3 := by unfold kindN; (repeat' split) <;> omega

theorem pKindP (t : List UInt8) (w : World) :
    Calls Tryz.prog 117 #[.string (strOf t)] w fun e w' => e = .returned (.tuple #[.int .u8 (kindN t), .bool (decide (kindN t ≠ 0))]) ∧ Ext w w' := by
  have hI := pIndexK t
  have hN := pNames
  have hk := kindN_le t
  generalize kindN t = K at *
  generalize strOf t = S at *
  go_enter Tryz.func117, Tryz.ntmps117
  go_wp2_with fail
  refine (hN _).mono ?_
  rintro e w1 ⟨rfl, hx⟩
  clear hN
  go_wp2_with fail
  refine (hI _ _ ?_).mono ?_
  · intro j h1 h3
    have hj : j = 1 ∨ j = 2 ∨ j = 3 := by omega
    rcases hj with rfl | rfl | rfl
    · go_simp
    · go_simp
    · go_simp
  rintro e w2 ⟨rfl, rfl⟩
  clear hI
  by_cases h0 : K = 0
  · subst h0
    go_wp2
    go_ret2
    exact ⟨ret_kind (by rfl) (by simp), by repeat (first | exact Ext.refl _ | assumption | apply Ext.drew | apply Ext.alloc | (refine Ext.setCell ?_ (by simp <;> omega) _) | refine Ext.trans ?_ (by assumption))⟩
  · have e1 : IntKind.i64.wrap ((K : Int) - 1 + 1) = K := by rw [IntKind.wrap_i64]; omega
    go_wp2
    go_ret2
    exact ⟨ret_kind (by first | rfl | (rw [IntKind.wrap_u8]; omega) | omega) (by simp [h0] <;> omega), by repeat (first | exact Ext.refl _ | assumption | apply Ext.drew | apply Ext.alloc | (refine Ext.setCell ?_ (by simp <;> omega) _) | refine Ext.trans ?_ (by assumption))⟩

theorem pNamed (br : Nat) (r : Rl) (t : List UInt8) (w : World) (hb : RBox w br r) :
    Calls Tryz.prog 83 #[.pointer (some ⟨br, 0, none⟩), .string (strOf t)] w fun e w' => e = .returned (.int .u16 (if kindN t = 0 then 27 else 0)) ∧ RBox w' br { r with kd := kindN t } ∧ But (fun x => x = br) w w' := by
  have hK := pKindP t
  have hk := kindN_le t
  have hS := fun W (hx : Ext w W) => (hb.ext hx).set3 (kindN t)
  generalize kindN t = K at *
  generalize ({ r with kd := K } : Rl) = R at *
  generalize strOf t = S at *
  go_enter Tryz.func83, Tryz.ntmps83
  go_wp2_with fail
  refine (hK _).mono ?_
  rintro e w1 ⟨rfl, hx⟩
  have hS1 := Lib.hid (hS w1 hx)
  have c3 := hx.reads hb.c3
  have f3 := hx.free hb.c3 hb.f3
  have hB : But (fun x => x = br) w (w1.setCell ⟨br, 3, none⟩ (.int .u8 K)) := (But.of_ext (S := fun x => x = br) hx).setCell (p := ⟨br, 3, none⟩) rfl _
  clear hb hS hK
  by_cases h0 : K = 0
  · subst h0
    go_wp2
    go_ret
    exact ⟨rfl, hS1.out, hB⟩
  · have h0' : decide (K ≠ 0) = true := by simp [h0]
    rw [h0']
    go_wp2
    go_ret
    exact ⟨by first | rfl | exact ret_u16 (if_neg h0).symm, hS1.out, hB⟩

end Go.Proofs.YtdgcgpapcbjfhaaGreatDoor

/- The map of a rule's parts. -/
namespace Go.Proofs.YtdgcgpapcbjfhaaGreatDoor
open Go.RowKit

theorem ckS (b : Bool) (n : Nat) (s : ByteArray) (w : World) : (Instr.checkKey b (n + 1) 9 (.string s)).run Tryz.prog w = .ok () w := by
  rw [Instr.checkKey]
  simp [Sem.run_bind, run_underlying Tryz.underlying9, Result.andThen]

theorem insP (W : World) (r : Nat) (es : Array MapEntry) (clock : Nat) (s : ByteArray) (val : Value) (hb : W.heap[r]? = some (.map es clock))
    (hf : Instr.findNow .string (.string s) es.toList 0 = some none) :
    ∃ W2, (Instr.mapUpdate 145 (.map (some r)) (.string s) val).run Tryz.prog W = .ok () W2 ∧ W2.heap[r]? = some (.map (es.push { key := .string s, val := val, born := clock }) (clock + 1)) ∧ But (fun x => x = r) W W2 := by
  refine ⟨{ W with heap := W.heap.setIfInBounds r (.map (es.push { key := .string s, val := val, born := clock }) (clock + 1)) }, ?_, ?_, ?_⟩
  · have hck := ckS false 9999 s
    simp only [Instr.mapUpdate, Sem.run_bind, run_underlying Tryz.underlying145, MapKept.run_getObj_map hb, Result.andThen]
    rw [hck]
    simp [MapKept.run_setObj_map _ hb, Result.andThen, Instr.findKey, run_underlying Tryz.underlying9, hf]
  · have hlt : r < W.heap.size := (Array.getElem?_eq_some_iff.1 hb).1
    simp [Array.getElem?_setIfInBounds, hlt]
  · refine ⟨rfl, rfl, rfl, by simp, fun k hk hn => ?_⟩
    have : r ≠ k := fun e => hn e.symm
    simp [Array.getElem?_setIfInBounds, this]

theorem lookP (W : World) (r : Nat) (es : Array MapEntry) (clock : Nat) (s : ByteArray) (i : Nat) (v : Value) (hb : W.heap[r]? = some (.map es clock))
    (hf : Instr.findNow .string (.string s) es.toList 0 = some (some (i, v))) :
    (Instr.lookup 145 (.map (some r)) (.string s) false).run Tryz.prog W = .ok v W := by
  have hck : ∀ w, (Instr.checkKey es.isEmpty 10000 9 (.string s)).run Tryz.prog w = .ok () w := ckS es.isEmpty 9999 s
  simp only [Instr.lookup, Sem.run_bind, run_underlying Tryz.underlying145, MapKept.run_getObj_map hb, Result.andThen, Sem.run_pure]
  simp [hck, Result.andThen, Instr.findKey, run_underlying Tryz.underlying9, hf]

theorem zeroP (w : World) : (zeroValue 144).run Tryz.prog w = .ok (.slice none 0 0) w := by kernel_rfl

theorem lookPno (W : World) (r : Nat) (es : Array MapEntry) (clock : Nat) (s : ByteArray) (hb : W.heap[r]? = some (.map es clock))
    (hf : Instr.findNow .string (.string s) es.toList 0 = some none) :
    (Instr.lookup 145 (.map (some r)) (.string s) false).run Tryz.prog W = .ok (.slice none 0 0) W := by
  have hck : ∀ w, (Instr.checkKey es.isEmpty 10000 9 (.string s)).run Tryz.prog w = .ok () w := ckS es.isEmpty 9999 s
  simp only [Instr.lookup, Sem.run_bind, run_underlying Tryz.underlying145, MapKept.run_getObj_map hb, Result.andThen, Sem.run_pure]
  simp [hck, Result.andThen, Instr.findKey, run_underlying Tryz.underlying9, hf, zeroP]

theorem strOf_beq (a b : List UInt8) : (strOf a == strOf b) = decide (a = b) := by
  have h : (strOf a == strOf b) = ((strOf a).data == (strOf b).data) := rfl
  rw [h, Bool.eq_iff_iff, beq_iff_eq, decide_eq_true_iff]
  simp [strOf]

theorem findS (s k : ByteArray) (v : Value) (b : Nat) (es : List MapEntry) (i : Nat) : Instr.findNow .string (.string s) ({ key := .string k, val := v, born := b } :: es) i = if (s == k) = true then some (some (i, v)) else Instr.findNow .string (.string s) es (i + 1) := by
  conv => lhs; unfold Instr.findNow
  show (match some (s == k) with | some true => some (some (i, v)) | some false => Instr.findNow .string (.string s) es (i + 1) | none => none) = _
  cases (s == k) <;> rfl

def fnE (b2 b3 : Nat) : Value := .func (.func 114) #[] #[.pointer (some ⟨b2, 0, none⟩), .pointer (some ⟨b3, 0, none⟩)]
def fnB : Value := .func (.func 82) #[] #[]
def fnN : Value := .func (.func 83) #[] #[]
def fnP : Value := .func (.func 84) #[] #[]

/-- the map of a rule's parts: built, and looked into -/
theorem partsMap (w1 : World) (b2 b3 : Nat) (t0 : List UInt8) :
    ∃ W2 W3 v, (Instr.mapUpdate 145 (.map (some w1.heap.size)) (.string ⟨#[100, 101, 102, 97, 117, 108, 116]⟩) (.slice (some ⟨w1.heap.size + 1, 0, none⟩) 3 3)).run Tryz.prog ((w1.alloc (.map #[] 0)).alloc (.cells #[fnE b2 b3, fnB, fnN] 139)) = .ok () W2 ∧
      (Instr.mapUpdate 145 (.map (some w1.heap.size)) (.string ⟨#[114, 117, 108, 101]⟩) (.slice (some ⟨W2.heap.size, 0, none⟩) 4 4)).run Tryz.prog (W2.alloc (.cells #[fnP, fnE b2 b3, fnB, fnN] 139)) = .ok () W3 ∧
      (Instr.lookup 145 (.map (some w1.heap.size)) (.string (strOf t0)) false).run Tryz.prog W3 = .ok v W3 ∧ Ext w1 W3 ∧
      (t0 = sDefault → ∃ g, v = .slice (some ⟨g, 0, none⟩) 3 3 ∧ W3.cell? ⟨g, 0, none⟩ = some (fnE b2 b3) ∧ W3.cell? ⟨g, 1, none⟩ = some fnB ∧ W3.cell? ⟨g, 2, none⟩ = some fnN) ∧
      (t0 = sRule → ∃ g, v = .slice (some ⟨g, 0, none⟩) 4 4 ∧ W3.cell? ⟨g, 0, none⟩ = some fnP ∧ W3.cell? ⟨g, 1, none⟩ = some (fnE b2 b3) ∧ W3.cell? ⟨g, 2, none⟩ = some fnB ∧ W3.cell? ⟨g, 3, none⟩ = some fnN) ∧
      (t0 ≠ sDefault → t0 ≠ sRule → v = .slice none 0 0) := by
  have hM0 : ((w1.alloc (.map #[] 0)).alloc (.cells #[fnE b2 b3, fnB, fnN] 139)).heap[w1.heap.size]? = some (.map #[] 0) := by
    rw [(MapKept.heap_alloc _ _).2 _ (by simp)]; exact (MapKept.heap_alloc w1 _).1
  obtain ⟨W2, h1, g1, k1⟩ := insP _ w1.heap.size #[] 0 (strOf sDefault) (.slice (some ⟨w1.heap.size + 1, 0, none⟩) 3 3) hM0 rfl
  have hs2 : w1.heap.size < W2.heap.size := Nat.lt_of_lt_of_le (by simp; omega) k1.size
  have hM1 : (W2.alloc (.cells #[fnP, fnE b2 b3, fnB, fnN] 139)).heap[w1.heap.size]? = some (.map ((#[] : Array MapEntry).push { key := .string (strOf sDefault), val := .slice (some ⟨w1.heap.size + 1, 0, none⟩) 3 3, born := 0 }) (0 + 1)) := by
    rw [(MapKept.heap_alloc _ _).2 _ hs2]; exact g1
  obtain ⟨W3, h2, g2, k2⟩ := insP _ w1.heap.size _ 1 (strOf sRule) (.slice (some ⟨W2.heap.size, 0, none⟩) 4 4) hM1 rfl
  have x0 : Ext w1 ((w1.alloc (.map #[] 0)).alloc (.cells #[fnE b2 b3, fnB, fnN] 139)) := by repeat (first | exact Ext.refl _ | assumption | apply Ext.drew | apply Ext.alloc | (refine Ext.setCell ?_ (by simp <;> omega) _) | refine Ext.trans ?_ (by assumption))
  have x2 : Ext w1 W2 := k1.ext x0 (by rintro x rfl; exact Nat.le_refl _)
  have x3 : Ext w1 W3 := k2.ext (x2.alloc _) (by rintro x rfl; exact Nat.le_refl _)
  have cD : ∀ i v, #[fnE b2 b3, fnB, fnN][i]? = some v → W3.cell? ⟨w1.heap.size + 1, i, none⟩ = some v := by
    intro i v hv
    have e0 : ((w1.alloc (.map #[] 0)).alloc (.cells #[fnE b2 b3, fnB, fnN] 139)).cell? ⟨w1.heap.size + 1, i, none⟩ = some v := by
      rw [show w1.heap.size + 1 = (w1.alloc (.map #[] 0)).heap.size by simp, World.cell?_alloc_new]; exact hv
    have e1 := k1.cell e0 (by simp)
    exact k2.cell (((Ext.refl W2).alloc _).reads e1) (by simp)
  have cR : ∀ i v, #[fnP, fnE b2 b3, fnB, fnN][i]? = some v → W3.cell? ⟨W2.heap.size, i, none⟩ = some v := by
    intro i v hv
    have e0 : (W2.alloc (.cells #[fnP, fnE b2 b3, fnB, fnN] 139)).cell? ⟨W2.heap.size, i, none⟩ = some v := by
      rw [World.cell?_alloc_new]; exact hv
    exact k2.cell e0 (by simp; omega)
  have hb1 : (strOf t0 == strOf sDefault) = decide (t0 = sDefault) := strOf_beq _ _
  have hb2 : (strOf t0 == strOf sRule) = decide (t0 = sRule) := strOf_beq _ _
  by_cases hd : t0 = sDefault
  · refine ⟨W2, W3, _, h1, h2, lookP W3 w1.heap.size _ _ (strOf t0) 0 _ g2 (by
      show Instr.findNow .string (.string (strOf t0)) [_, _] 0 = _
      rw [findS, hb1, if_pos (decide_eq_true hd)]), x3, fun _ => ⟨_, rfl, cD 0 _ rfl, cD 1 _ rfl, cD 2 _ rfl⟩, fun h => absurd (hd.symm.trans h) (by decide), fun h => absurd hd h⟩
  by_cases hr : t0 = sRule
  · refine ⟨W2, W3, _, h1, h2, lookP W3 w1.heap.size _ _ (strOf t0) 1 _ g2 (by
      show Instr.findNow .string (.string (strOf t0)) [_, _] 0 = _
      rw [findS, hb1, if_neg (by simpa using hd), findS, hb2, if_pos (decide_eq_true hr)]), x3, fun h => absurd h hd, fun _ => ⟨_, rfl, cR 0 _ rfl, cR 1 _ rfl, cR 2 _ rfl, cR 3 _ rfl⟩, fun _ h => absurd hr h⟩
  · refine ⟨W2, W3, _, h1, h2, lookPno W3 w1.heap.size _ _ (strOf t0) g2 (by
      show Instr.findNow .string (.string (strOf t0)) [_, _] 0 = _
      rw [findS, hb1, if_neg (by simpa using hd), findS, hb2, if_neg (by simpa using hr)]
      rfl), x3, fun h => absurd h hd, fun h => absurd h hr, fun _ _ => rfl⟩

end Go.Proofs.YtdgcgpapcbjfhaaGreatDoor
