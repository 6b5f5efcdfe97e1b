/- Contracts of the layer bucket, and of its reference. -/
import Derived.Test.YtdgcgpapcbjfhaaGreatDoorProg
import Derived.Test.YtdgcgpapcbjfhaaGreatDoorJ01SpecK
import Derived.WalkKit
import Derived.Lib.Hide
import Derived.RegionTactic
import Derived.MapKept
import Derived.Carry
import Derived.Laws.EntriesVeiled
import Derived.Deep.RegionHeld3
import Derived.Deep.QuietTactic
import Derived.BigQuiet
set_option linter.unusedVariables false
set_option linter.unusedSimpArgs false

/- Contracts of the plain functions. -/
namespace Go.Proofs.YtdgcgpapcbjfhaaGreatDoor
open Go.RowKit

theorem ite_min (x y : Int) : (if y < x then y else x) = min x y := by rw [Int.min_def]; split <;> split <;> omega

theorem ite_max (x y : Int) : (if x < y then y else x) = max x y := by rw [Int.max_def]; split <;> split <;> omega

theorem ret_u64 {a b : Int} (h : a = b) : Ending.returned (.int .u64 a) = .returned (.int .u64 b) := by rw [h]
theorem ret_bool {a b : Bool} (h : a = b) : Ending.returned (.bool a) = .returned (.bool b) := by rw [h]
theorem ret_3 {a b a' b' : Int} {r r' : Bool} (h : a = a') (h' : b = b') (h'' : r = r') : Ending.returned (.tuple #[.int .u64 a, .int .u64 b, .bool r]) = .returned (.tuple #[.int .u64 a', .int .u64 b', .bool r']) := by rw [h, h', h'']
theorem wrap_u64_lo (a : Int) (h : a < 0) (h' : -18446744073709551616 ≤ a) : IntKind.u64.wrap a = a + 18446744073709551616 := by rw [IntKind.wrap_u64]; omega
theorem wrap_u64_hi (a : Int) (h : 18446744073709551615 < a) (h' : a ≤ 36893488147419103231) : IntKind.u64.wrap a = a - 18446744073709551616 := by rw [IntKind.wrap_u64]; omega

/-- From w on the world has grown: of what was there nothing has turned. -/
def Ext (w w' : World) : Prop := Below w.heap.size w w'

theorem Ext.refl (w : World) : Ext w w := Below.refl _ _

theorem Ext.trans {a b c : World} (h : Ext a b) (k : Ext b c) : Ext a c := Below.trans h (Below.mono k h.size)

theorem Ext.alloc {a w : World} (h : Ext a w) (o : Obj) : Ext a (w.alloc o) := Below.alloc h h.size o

theorem Ext.drew {a w : World} (h : Ext a w) : Ext a w.drew := Below.drew h

theorem Ext.setCell {a w : World} (h : Ext a w) {p : Addr} (hp : a.heap.size ≤ p.block) (u : Value) : Ext a (w.setCell p u) := Below.setCell h hp u

theorem Ext.past {a b : World} {o : Obj} (h : Ext (a.alloc o) b) : Ext a b := ((Ext.refl a).alloc o).trans h

theorem Ext.reads {W w1 : World} (h : Ext W w1) {p : Addr} {v : Value} (hc : W.cell? p = some v) : w1.cell? p = some v := by
  rw [Below.cell h (World.block_lt_of_cell? W _ hc)]; exact hc

theorem Ext.free {W w1 : World} (h : Ext W w1) {p : Addr} {v : Value} (hc : W.cell? p = some v) (hf : W.frozen? p = false) : w1.frozen? p = false := by
  rw [Below.frozen h (World.block_lt_of_cell? W _ hc)]; exact hf

theorem Ext.size {W w1 : World} (h : Ext W w1) : W.heap.size ≤ w1.heap.size := Below.size h

theorem nSub (a b : Int) (ha : U a) (hb : U b) (w : World) :
    Calls Tryz.prog 167 #[.int .u64 a, .int .u64 b] w fun e w' => e = .returned (.int .u64 (usub a b)) ∧ w = w' := by
  obtain ⟨ha, ha'⟩ := ha; obtain ⟨hb, hb'⟩ := hb
  go_enter Tryz.func167, Tryz.ntmps167
  go_wp2
  all_goals (go_ret; exact ⟨ret_u64 (by unfold usub; omega), rfl⟩)

theorem wAdd (ah al bh bl : Int) (hah : U ah) (hal : U al) (hbh : U bh) (hbl : U bl) (w : World) :
    Calls Tryz.prog 206 #[.int .u64 ah, .int .u64 al, .int .u64 bh, .int .u64 bl] w fun e w' =>
      e = .returned (.tuple #[.int .u64 (addH ah al bh bl), .int .u64 (addL al bl), .bool (addR ah al bh bl)]) ∧ w = w' := by
  obtain ⟨hah, hah'⟩ := hah; obtain ⟨hal, hal'⟩ := hal; obtain ⟨hbh, hbh'⟩ := hbh; obtain ⟨hbl, hbl'⟩ := hbl
  by_cases h1 : al + bl ≤ 18446744073709551615
  · by_cases h2 : ah + bh ≤ 18446744073709551615
    · go_enter Tryz.func206, Tryz.ntmps206
      go_wp2
      go_ret3
      exact ⟨ret_3 (addH_00 h1 h2).symm (addL_0 h1).symm (by rw [addR_00 h1 h2]; simp; omega), rfl⟩
    · have hw := wrap_u64_hi (ah + bh) (by omega) (by omega)
      obtain ⟨h, hh⟩ : ∃ h, IntKind.u64.wrap (ah + bh) = h := ⟨_, rfl⟩
      rw [hh] at hw
      have l1 : 0 ≤ h := by omega
      have l2 : h < ah := by omega
      have hW := Lib.hid hw; clear hw
      go_enter Tryz.func206, Tryz.ntmps206
      go_wp2
      go_ret3
      exact ⟨ret_3 (by rw [hW.out]; exact (addH_01 h1 (by omega)).symm) (addL_0 h1).symm (addR_01 h1 (by omega)).symm, rfl⟩
  · have hv := wrap_u64_hi (al + bl) (by omega) (by omega)
    obtain ⟨l, hl⟩ : ∃ l, IntKind.u64.wrap (al + bl) = l := ⟨_, rfl⟩
    rw [hl] at hv
    have k1 : 0 ≤ l := by omega
    have k2 : l < al := by omega
    have hV := Lib.hid hv; clear hv
    by_cases h2 : ah + bh ≤ 18446744073709551614
    · go_enter Tryz.func206, Tryz.ntmps206
      go_wp2
      go_ret3
      exact ⟨ret_3 (addH_10 h1 h2).symm (by rw [hV.out]; exact (addL_1 h1).symm) (by rw [addR_10 h1 h2]; simp; omega), rfl⟩
    · by_cases h3 : ah + bh ≤ 18446744073709551615
      · have hw := wrap_u64_hi (ah + bh + 1) (by omega) (by omega)
        obtain ⟨h, hh⟩ : ∃ h, IntKind.u64.wrap (ah + bh + 1) = h := ⟨_, rfl⟩
        rw [hh] at hw
        have l1 : 0 ≤ h := by omega
        have l2 : h < ah + bh := by omega
        have hW := Lib.hid hw; clear hw
        go_enter Tryz.func206, Tryz.ntmps206
        go_wp2
        go_ret3
        exact ⟨ret_3 (by rw [hW.out]; exact (addH_11 h1 (by omega)).symm) (by rw [hV.out]; exact (addL_1 h1).symm) (addR_11 h1 (by omega)).symm, rfl⟩
      · have hw := wrap_u64_hi (ah + bh) (by omega) (by omega)
        obtain ⟨h, hh⟩ : ∃ h, IntKind.u64.wrap (ah + bh) = h := ⟨_, rfl⟩
        rw [hh] at hw
        have l1 : 0 ≤ h := by omega
        have l2 : h < ah := by omega
        have l3 : h ≤ 18446744073709551614 := by omega
        have hW := Lib.hid hw; clear hw
        go_enter Tryz.func206, Tryz.ntmps206
        go_wp2
        go_ret3
        exact ⟨ret_3 (by rw [hW.out]; exact (addH_11' h1 (by omega)).symm) (by rw [hV.out]; exact (addL_1 h1).symm) (addR_11 h1 (by omega)).symm, rfl⟩

theorem wLess (ah al bh bl : Int) (hah : U ah) (hal : U al) (hbh : U bh) (hbl : U bl) (w : World) :
    Calls Tryz.prog 207 #[.int .u64 ah, .int .u64 al, .int .u64 bh, .int .u64 bl] w fun e w' =>
      e = .returned (.bool (less ah al bh bl)) ∧ w = w' := by
  obtain ⟨hah, hah'⟩ := hah; obtain ⟨hal, hal'⟩ := hal; obtain ⟨hbh, hbh'⟩ := hbh; obtain ⟨hbl, hbl'⟩ := hbl
  by_cases h1 : ah = bh
  · subst h1
    go_enter Tryz.func207, Tryz.ntmps207
    go_wp2
    go_ret
    exact ⟨ret_bool (by unfold less; simp), rfl⟩
  · go_enter Tryz.func207, Tryz.ntmps207
    go_wp2
    go_ret
    exact ⟨ret_bool (by unfold less; simp [h1]), rfl⟩

theorem nFits (a b c : Int) (ha : U a) (hb : U b) (hc : U c) (w : World) :
    Calls Tryz.prog 163 #[.int .u64 a, .int .u64 b, .int .u64 c] w fun e w' => e = .returned (.bool (fits a b c)) ∧ w = w' := by
  have u0 : U 0 := by unfold U; omega
  have hH := addH_U (al := a) (bl := b) u0 u0
  have hL := addL_U ha hb
  have hf := less_fits ha hb hc
  obtain ⟨H, eH⟩ : ∃ H, addH 0 a 0 b = H := ⟨_, rfl⟩
  obtain ⟨L, eL⟩ : ∃ L, addL a b = L := ⟨_, rfl⟩
  obtain ⟨R, eR⟩ : ∃ R, addR 0 a 0 b = R := ⟨_, rfl⟩
  rw [eH] at hH hf; rw [eL] at hL hf
  have hF := Lib.hid hf; clear hf
  go_enter Tryz.func163, Tryz.ntmps163
  go_wp2_with fail
  refine (wAdd 0 a 0 b u0 ha u0 hb _).mono ?_
  rw [eH, eL, eR]
  rintro e w' ⟨rfl, rfl⟩
  go_wp2_with fail
  refine (wLess 0 c H L u0 hc hH hL _).mono ?_
  rintro e w' ⟨rfl, rfl⟩
  go_wp2_with fail
  go_ret
  exact ⟨ret_bool hF.out, rfl⟩

theorem nAddNil (cap : Nat) (w : World) :
    Calls Tryz.prog 216 #[.slice none 0 cap] w fun e w' => e = .returned (.int .u64 0) ∧ w = w' := by
  go_enter Tryz.func216, Tryz.ntmps216
  go_wp2
  go_loop [3, 5, 8] (fun s x i => s = .int .u64 0 ∧ i = .int .i64 0) (fun _ _ _ => 0)
  case atStart => exact ⟨rfl, rfl⟩
  case round =>
    obtain ⟨rfl, rfl⟩ := hrel
    go_wp2
    go_ret
    exact ⟨rfl, rfl⟩

set_option maxHeartbeats 400000 in
theorem nAdd (xs : List Int) (b off cap : Nat) (hx : ∀ i, i < xs.length → U (xs.getD i 0)) (hl : xs.length ≤ maxLen) (w : World)
    (hc : ∀ i, i < xs.length → w.cell? ⟨b, off + i, none⟩ = some (.int .u64 (xs.getD i 0))) :
    Calls Tryz.prog 216 #[.slice (some ⟨b, off, none⟩) xs.length cap] w fun e w' => e = .returned (.int .u64 (usum xs)) ∧ w = w' := by
  unfold maxLen at hl
  have hC := Lib.hid hc; clear hc
  have hX := Lib.hid hx; clear hx
  go_enter Tryz.func216, Tryz.ntmps216
  go_wp2
  go_loop [3, 5, 8] (fun s x i => ∃ k : Nat, k ≤ xs.length ∧ Hid ((xs.take k).sum ≤ 18446744073709551615 ∧ 0 ≤ (xs.take k).sum) ∧ s = .int .u64 (xs.take k).sum ∧ i = .int .i64 k) (fun _ _ i => xs.length - (intOf i).toNat)
  case atStart => exact ⟨0, Nat.zero_le _, Lib.hid ⟨by simp, by simp⟩, rfl, rfl⟩
  case round =>
    obtain ⟨k, hk, hs, rfl, rfl⟩ := hrel
    by_cases hlt : k < xs.length
    · have hcell := hC.out k hlt
      have hU := hX.out k hlt
      have hts := sum_take_succ xs k hlt
      obtain ⟨hs1, hs2⟩ := hs.out
      obtain ⟨hu1, hu2⟩ := hU
      obtain ⟨x, ex⟩ : ∃ x, xs.getD k 0 = x := ⟨_, rfl⟩
      rw [ex] at hcell hu1 hu2 hts
      obtain ⟨S, eS⟩ : ∃ S, (xs.take k).sum = S := ⟨_, rfl⟩
      rw [eS] at hs1 hs2 hts ⊢
      have hTS := Lib.hid hts; clear hts
      have hmono := Lib.hid (sum_take_le xs (k + 1) hX.out)
      clear ex eS hs
      by_cases hov : S + x ≤ 18446744073709551615
      · go_wp2
        go_round
        case rel => exact ⟨k + 1, by omega, Lib.hid (by rw [hTS.out]; omega), by rw [hTS.out], by go_num⟩
        case measure => simp [intOf]; omega
      · have hw := wrap_u64_hi (S + x) (by omega) (by omega)
        obtain ⟨z, ez⟩ : ∃ z, IntKind.u64.wrap (S + x) = z := ⟨_, rfl⟩
        rw [ez] at hw
        have hz : z < x := by omega
        clear hw
        go_wp2
        go_ret
        exact ⟨ret_u64 (by have := hmono.out; rw [hTS.out] at this; exact (usum_hi (by omega)).symm), rfl⟩
    · have hs2 := hs.out
      obtain rfl : k = xs.length := by omega
      go_wp2
      go_ret
      exact ⟨ret_u64 (by rw [List.take_of_length_le (Nat.le_refl _)] at *; exact (usum_lo hs2.1).symm), rfl⟩

theorem nAdd2 (x y : Int) (b cap : Nat) (hx : U x) (hy : U y) (w : World) (h0 : w.cell? ⟨b, 0, none⟩ = some (.int .u64 x)) (h1 : w.cell? ⟨b, 1, none⟩ = some (.int .u64 y)) :
    Calls Tryz.prog 216 #[.slice (some ⟨b, 0, none⟩) 2 cap] w fun e w' => e = .returned (.int .u64 (uadd x y)) ∧ w = w' := by
  have h := nAdd [x, y] b 0 cap (fun i hi => by rcases i with _ | _ | i; exact hx; exact hy; simp at hi; omega) (by unfold maxLen; simp) w
    (fun i hi => by rcases i with _ | _ | i; exact h0; exact h1; simp at hi; omega)
  rw [usum_two] at h
  exact h

end Go.Proofs.YtdgcgpapcbjfhaaGreatDoor

namespace Go.Proofs.YtdgcgpapcbjfhaaGreatDoor
open Go.RowKit

theorem ck (b : Bool) (n : Nat) (k : Int) (w : World) : (Instr.checkKey b (n + 1) 5 (.int .u8 k)).run Tryz.prog w = .ok () w := by
  rw [Instr.checkKey]
  simp [Sem.run_bind, run_underlying Tryz.underlying5, Result.andThen]

theorem run_ins (w : World) (r : Nat) (es : Array MapEntry) (clock : Nat) (k : Int) (val : Value) (hb : w.heap[r]? = some (.map es clock))
    (hf : Instr.findNow (.int .u8) (.int .u8 k) es.toList 0 = some none) :
    (Instr.mapUpdate 263 (.map (some r)) (.int .u8 k) val).run Tryz.prog w = .ok () { w with heap := w.heap.setIfInBounds r (.map (es.push { key := .int .u8 k, val := val, born := clock }) (clock + 1)) } := by
  have hck := ck false 9999 k
  simp only [Instr.mapUpdate, Sem.run_bind, run_underlying Tryz.underlying263, MapKept.run_getObj_map hb, Result.andThen]
  rw [hck]
  simp [MapKept.run_setObj_map _ hb, Result.andThen, Instr.findKey, run_underlying Tryz.underlying5, hf]

theorem run_look (w : World) (r : Nat) (es : Array MapEntry) (clock : Nat) (k : Int) (i : Nat) (v : Value) (hb : w.heap[r]? = some (.map es clock))
    (hf : Instr.findNow (.int .u8) (.int .u8 k) es.toList 0 = some (some (i, v))) :
    (Instr.lookup 263 (.map (some r)) (.int .u8 k) true).run Tryz.prog w = .ok (.tuple #[v, .bool true]) w := by
  have hck : ∀ w, (Instr.checkKey es.isEmpty 10000 5 (.int .u8 k)).run Tryz.prog w = .ok () w := ck es.isEmpty 9999 k
  simp only [Instr.lookup, Sem.run_bind, run_underlying Tryz.underlying263, MapKept.run_getObj_map hb, Result.andThen, Sem.run_pure]
  simp [hck, Result.andThen, Instr.findKey, run_underlying Tryz.underlying5, hf]

theorem run_look_no (w : World) (r : Nat) (es : Array MapEntry) (clock : Nat) (k : Int) (z : Value) (hb : w.heap[r]? = some (.map es clock))
    (hz : ∀ w, (zeroValue 261).run Tryz.prog w = .ok z w)
    (hf : Instr.findNow (.int .u8) (.int .u8 k) es.toList 0 = some none) :
    (Instr.lookup 263 (.map (some r)) (.int .u8 k) true).run Tryz.prog w = .ok (.tuple #[z, .bool false]) w := by
  have hck : ∀ w, (Instr.checkKey es.isEmpty 10000 5 (.int .u8 k)).run Tryz.prog w = .ok () w := ck es.isEmpty 9999 k
  simp only [Instr.lookup, Sem.run_bind, run_underlying Tryz.underlying263, MapKept.run_getObj_map hb, Result.andThen, Sem.run_pure]
  simp [hck, Result.andThen, Instr.findKey, run_underlying Tryz.underlying5, hf, hz]

theorem zeroK (w : World) : (zeroValue 261).run Tryz.prog w = .ok (.agg #[.nilFunc, .nilFunc, .nilFunc]) w := by kernel_rfl

end Go.Proofs.YtdgcgpapcbjfhaaGreatDoor

/- Contracts of the layer bucket, and of its reference. -/
namespace Go.Proofs.YtdgcgpapcbjfhaaGreatDoor
open Go.RowKit

theorem bOf (now cap fill : Int) (hn : U now) (hc : U cap) (hf : U fill) (w : World) :
    Calls Tryz.prog 200 #[.int .u64 now, .int .u64 cap, .int .u64 fill] w fun e w' =>
      e = .returned (.agg #[.int .u8 2, .int .u64 (usub cap fill), .int .u64 now]) ∧ Ext w w' := by
  go_enter Tryz.func200, Tryz.ntmps200
  go_wp2_with (go_at_call 167; refine (nSub _ _ (by assumption) (by assumption) _).mono ?_; rintro e w' ⟨rfl, rfl⟩)
  exact bodyPost_ret (v := .agg #[.int .u8 2, .int .u64 (usub cap fill), .int .u64 now]) (by simp [results, Tryz.results200, go_sem]) rfl ⟨rfl, by repeat (first | exact Ext.refl _ | assumption | apply Ext.drew | apply Ext.alloc | (refine Ext.setCell ?_ (by simp <;> omega) _) | refine Ext.trans ?_ (by assumption))⟩

theorem bFillL (cap k A B now : Int) (hA : U A) (hB : U B) (hn : U now) (hc : U cap) (w : World) (pc : Addr) (hp : w.cell? pc = some (.int .u64 cap)) :
    Calls Tryz.prog 225 #[.agg #[.int .u8 k, .int .u64 A, .int .u64 B], .int .u64 now, .pointer (some pc)] w fun e w' =>
      e = .returned (.int .u64 (tok A B now cap)) ∧ Ext w w' := by
  have hnew := World.new_ne w pc hp
  have hu := usub_U hn hB
  go_enter Tryz.func225, Tryz.ntmps225
  go_wp2
  go_region_held3 (fun w' => w'.cell? pc = some (.int .u64 cap) ∧ w'.cell? ⟨w.heap.size, 1, none⟩ = some (.int .u64 A) ∧ w'.cell? ⟨w.heap.size, 2, none⟩ = some (.int .u64 B)) (go_keep)
    (first
      | (go_at_call 167; refine (nSub _ _ hn hB _).mono ?_; rintro e w' ⟨rfl, rfl⟩)
      | (go_at_call 216; refine (nAdd2 _ _ _ _ hA hu _ ?_ ?_).mono ?_; (go_simp); (go_simp); rintro e w' ⟨rfl, rfl⟩))
  all_goals go_wp2
  all_goals go_ret
  all_goals exact ⟨ret_u64 (by unfold tok; omega), by repeat (first | exact Ext.refl _ | assumption | apply Ext.drew | apply Ext.alloc | (refine Ext.setCell ?_ (by simp <;> omega) _) | refine Ext.trans ?_ (by assumption))⟩

theorem bFilled (cap : Int) (w : World) :
    Calls Tryz.prog 218 #[.int .u64 cap] w fun e w' => e = .returned (.func (.func 225) #[] #[.pointer (some ⟨w.heap.size, 0, none⟩)]) ∧ w.alloc (.cells #[.int .u64 cap] 25) = w' := by
  go_enter Tryz.func218, Tryz.ntmps218
  go_wp2
  go_ret
  exact ⟨rfl, rfl⟩

theorem bFill (k A B now cap : Int) (hA : U A) (hB : U B) (hn : U now) (hc : U cap) (w : World) :
    Calls Tryz.prog 201 #[.agg #[.int .u8 k, .int .u64 A, .int .u64 B], .int .u64 now, .int .u64 cap] w fun e w' =>
      e = .returned (.int .u64 (bfill A B now cap)) ∧ Ext w w' := by
  have ht := tok_U hA hB hn hc
  have htl := tok_le A B now cap
  obtain ⟨hc1, hc2⟩ := hc
  obtain ⟨ht1, ht2⟩ := ht
  go_enter Tryz.func201, Tryz.ntmps201
  go_wp2
  go_region_held3 (fun w' => w'.cell? ⟨w.heap.size, 0, none⟩ = some (.int .u8 k) ∧ w'.cell? ⟨w.heap.size, 1, none⟩ = some (.int .u64 A) ∧ w'.cell? ⟨w.heap.size, 2, none⟩ = some (.int .u64 B))
    (first
      | go_keep
      | (go_split_ands
         refine ⟨?_, ?_, ?_⟩
         · (refine hb.reads ?_; go_simp)
         · (refine hb.reads ?_; go_simp)
         · (refine hb.reads ?_; go_simp)))
    (first
      | (go_at_call 218; refine (bFilled _ _).mono ?_; rintro e w' ⟨rfl, rfl⟩)
      | (go_at_call 225; refine (bFillL cap k A B now hA hB hn ⟨hc1, hc2⟩ _ _ ?_).mono ?_; (go_simp); rintro e w1 ⟨rfl, hb⟩))
  go_wp2
  go_ret
  rw [IntWalk.u64_in _ (by omega)]
  exact ⟨rfl, by repeat (first | exact Ext.refl _ | assumption | apply Ext.drew | apply Ext.alloc | (refine Ext.setCell ?_ (by simp <;> omega) _) | refine Ext.trans ?_ (by assumption))⟩

set_option maxHeartbeats 400000 in
theorem bDecide (k A B now cap v : Int) (hA : U A) (hB : U B) (hn : U now) (hc : U cap) (hv : U v) (w : World) :
    Calls Tryz.prog 202 #[.agg #[.int .u8 k, .int .u64 A, .int .u64 B], .int .u64 now, .int .u64 cap, .int .u64 v] w fun e w' =>
      e = .returned (.tuple #[.agg #[.int .u8 (bK k A B now cap v), .int .u64 (bA A B now cap v), .int .u64 (bB A B now cap v)], .bool (bok A B now cap v)]) ∧ Ext w w' := by
  have ht := tok_U hA hB hn hc
  have htl := tok_le A B now cap
  obtain ⟨hc1, hc2⟩ := hc
  obtain ⟨ht1, ht2⟩ := ht
  obtain ⟨hv1, hv2⟩ := hv
  go_enter Tryz.func202, Tryz.ntmps202
  go_wp2
  go_region_held3 (fun w' => w'.cell? ⟨w.heap.size, 0, none⟩ = some (.int .u8 k) ∧ w'.cell? ⟨w.heap.size, 1, none⟩ = some (.int .u64 A) ∧ w'.cell? ⟨w.heap.size, 2, none⟩ = some (.int .u64 B))
    (first
      | go_keep
      | (go_split_ands
         refine ⟨?_, ?_, ?_⟩
         · (refine hb.reads ?_; go_simp)
         · (refine hb.reads ?_; go_simp)
         · (refine hb.reads ?_; go_simp)))
    (first
      | (go_at_call 218; refine (bFilled _ _).mono ?_; rintro e w' ⟨rfl, rfl⟩)
      | (go_at_call 225; refine (bFillL cap k A B now hA hB hn ⟨hc1, hc2⟩ _ _ ?_).mono ?_; (go_simp); rintro e w1 ⟨rfl, hb⟩))
  have c0 : w1.cell? ⟨w.heap.size + 1, 0, none⟩ = some (.int .u8 0) := hb.reads (by go_simp)
  have c1 : w1.cell? ⟨w.heap.size + 1, 1, none⟩ = some (.int .u64 0) := hb.reads (by go_simp)
  have c2 : w1.cell? ⟨w.heap.size + 1, 2, none⟩ = some (.int .u64 0) := hb.reads (by go_simp)
  have f0 : w1.frozen? ⟨w.heap.size + 1, 0, none⟩ = false := hb.free (v := .int .u8 0) (by go_simp) (by go_simp)
  have f1 : w1.frozen? ⟨w.heap.size + 1, 1, none⟩ = false := hb.free (v := .int .u64 0) (by go_simp) (by go_simp)
  have f2 : w1.frozen? ⟨w.heap.size + 1, 2, none⟩ = false := hb.free (v := .int .u64 0) (by go_simp) (by go_simp)
  by_cases hle : v ≤ tok A B now cap
  · go_wp2
    exact bodyPost_ret (v := .tuple #[.agg #[.int .u8 2, .int .u64 (tok A B now cap - v), .int .u64 now], .bool true]) (by simp [results, Tryz.results202, go_sem, c0, c1, c2]) rfl
      ⟨by simp only [bK, bA, bB, bok, if_pos hle, decide_eq_true hle], by repeat (first | exact Ext.refl _ | assumption | apply Ext.drew | apply Ext.alloc | (refine Ext.setCell ?_ (by simp <;> omega) _) | refine Ext.trans ?_ (by assumption))⟩
  · go_wp2
    exact bodyPost_ret (v := .tuple #[.agg #[.int .u8 k, .int .u64 A, .int .u64 B], .bool false]) (by simp [results, Tryz.results202, go_sem, c0, c1, c2]) rfl
      ⟨by simp only [bK, bA, bB, bok, if_neg (Int.not_le.2 hle), decide_eq_false (Int.not_le.2 hle)], by repeat (first | exact Ext.refl _ | assumption | apply Ext.drew | apply Ext.alloc | (refine Ext.setCell ?_ (by simp <;> omega) _) | refine Ext.trans ?_ (by assumption))⟩

end Go.Proofs.YtdgcgpapcbjfhaaGreatDoor
