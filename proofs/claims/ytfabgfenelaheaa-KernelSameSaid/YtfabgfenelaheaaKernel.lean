/- Contracts of the layer kernel. -/
import Derived.Test.YtfabgfenelaheaaKm
import Derived.Test.YtfabgfenelaheaaSpecK
import Derived.Test.YtfabgfenelaheaaBucket
import Derived.Test.YtfabgfenelaheaaLeaky
import Derived.Test.YtfabgfenelaheaaGcra
set_option linter.unusedVariables false
namespace Go.Proofs.Ytfabgfenelaheaa
open Go.RowKit

attribute [local go_sem] ite_min ite_max

/-- What all() holds. -/
def es3 : Array MapEntry := #[{ key := .int .u8 1, val := (.agg #[.func (.func 70) #[] #[], .func (.func 71) #[] #[], .func (.func 72) #[] #[]]), born := 0 },
  { key := .int .u8 2, val := (.agg #[.func (.func 73) #[] #[], .func (.func 74) #[] #[], .func (.func 75) #[] #[]]), born := 1 },
  { key := .int .u8 3, val := (.agg #[.func (.func 76) #[] #[], .func (.func 77) #[] #[], .func (.func 78) #[] #[]]), born := 2 }]

theorem alloc_set (w : World) (a b : Obj) : { (w.alloc a) with heap := (w.alloc a).heap.setIfInBounds w.heap.size b } = w.alloc b := by
  have h : (w.heap.push a).setIfInBounds w.heap.size b = w.heap.push b := by apply Array.ext'; simp
  show ({ w with heap := (w.heap.push a).setIfInBounds w.heap.size b } : World) = { w with heap := w.heap.push b }
  rw [h]

theorem ins_alloc (w : World) (es : Array MapEntry) (clock : Nat) (k : Int) (val : Value) (hf : Instr.findNow (.int .u8) (.int .u8 k) es.toList 0 = some none) :
    (Instr.mapUpdate 85 (.map (some w.heap.size)) (.int .u8 k) val).run Try.prog (w.alloc (.map es clock)) = .ok () (w.alloc (.map (es.push { key := .int .u8 k, val := val, born := clock }) (clock + 1))) := by
  rw [run_ins (w.alloc (.map es clock)) w.heap.size es clock k val (MapKept.heap_alloc w _).1 hf, alloc_set]

set_option maxRecDepth 20000 in
theorem kAll (w : World) :
    Calls Try.prog 54 #[] w fun e w' => e = .returned (.map (some w.heap.size)) ∧ w.alloc (.map es3 3) = w' := by
  have hmm := @run_makeMap Try.prog
  have h1 : (Instr.mapUpdate 85 (.map (some w.heap.size)) (.int .u8 1) (.agg #[.func (.func 70) #[] #[], .func (.func 71) #[] #[], .func (.func 72) #[] #[]])).run Try.prog (w.alloc (.map #[] 0)) = .ok () (w.alloc (.map #[{ key := .int .u8 1, val := (.agg #[.func (.func 70) #[] #[], .func (.func 71) #[] #[], .func (.func 72) #[] #[]]), born := 0 }] 1)) := ins_alloc w _ 0 1 _ rfl
  have h2 : (Instr.mapUpdate 85 (.map (some w.heap.size)) (.int .u8 2) (.agg #[.func (.func 73) #[] #[], .func (.func 74) #[] #[], .func (.func 75) #[] #[]])).run Try.prog (w.alloc (.map #[{ key := .int .u8 1, val := (.agg #[.func (.func 70) #[] #[], .func (.func 71) #[] #[], .func (.func 72) #[] #[]]), born := 0 }] 1)) = .ok () (w.alloc (.map #[{ key := .int .u8 1, val := (.agg #[.func (.func 70) #[] #[], .func (.func 71) #[] #[], .func (.func 72) #[] #[]]), born := 0 }, { key := .int .u8 2, val := (.agg #[.func (.func 73) #[] #[], .func (.func 74) #[] #[], .func (.func 75) #[] #[]]), born := 1 }] 2)) := ins_alloc w _ 1 2 _ rfl
  have h3 : (Instr.mapUpdate 85 (.map (some w.heap.size)) (.int .u8 3) (.agg #[.func (.func 76) #[] #[], .func (.func 77) #[] #[], .func (.func 78) #[] #[]])).run Try.prog (w.alloc (.map #[{ key := .int .u8 1, val := (.agg #[.func (.func 70) #[] #[], .func (.func 71) #[] #[], .func (.func 72) #[] #[]]), born := 0 }, { key := .int .u8 2, val := (.agg #[.func (.func 73) #[] #[], .func (.func 74) #[] #[], .func (.func 75) #[] #[]]), born := 1 }] 2)) = .ok () (w.alloc (.map #[{ key := .int .u8 1, val := (.agg #[.func (.func 70) #[] #[], .func (.func 71) #[] #[], .func (.func 72) #[] #[]]), born := 0 }, { key := .int .u8 2, val := (.agg #[.func (.func 73) #[] #[], .func (.func 74) #[] #[], .func (.func 75) #[] #[]]), born := 1 }, { key := .int .u8 3, val := (.agg #[.func (.func 76) #[] #[], .func (.func 77) #[] #[], .func (.func 78) #[] #[]]), born := 2 }] 3)) := ins_alloc w _ 2 3 _ rfl
  unfold es3
  go_enter Try.func54, Try.ntmps54
  go_wp2
  go_ret
  exact ⟨rfl, rfl⟩

theorem find0 (k : Int) (h1 : k ≠ 1) (h2 : k ≠ 2) (h3 : k ≠ 3) : Instr.findNow (.int .u8) (.int .u8 k) es3.toList 0 = some none := by
  have b1 := beq_false_of_ne h1
  have b2 := beq_false_of_ne h2
  have b3 := beq_false_of_ne h3
  simp [es3, Instr.findNow, Instr.sameNow, b1, b2, b3]

theorem kAll1 (w : World) :
    Calls Try.prog 54 #[] w fun e w' => ∃ b, e = .returned (.map (some b)) ∧ Ext w w' ∧
      ((Instr.lookup 85 (.map (some b)) (.int .u8 1) true).run Try.prog w' = .ok (.tuple #[.agg #[.func (.func 70) #[] #[], .func (.func 71) #[] #[], .func (.func 72) #[] #[]], .bool true]) w') ∧
      (∀ o, (Instr.lookup 85 (.map (some b)) (.int .u8 1) true).run Try.prog (w'.alloc o) = .ok (.tuple #[.agg #[.func (.func 70) #[] #[], .func (.func 71) #[] #[], .func (.func 72) #[] #[]], .bool true]) (w'.alloc o)) := by
  refine (kAll _).mono ?_
  rintro e w1 ⟨rfl, rfl⟩
  refine ⟨_, rfl, by repeat (first | exact Ext.refl _ | assumption | apply Ext.drew | apply Ext.alloc | (refine Ext.setCell ?_ (by simp <;> omega) _) | refine Ext.trans ?_ (by assumption)), ?_, fun o => ?_⟩
  · exact run_look _ _ es3 3 1 0 _ (MapKept.heap_alloc w _).1 rfl
  · refine run_look _ _ es3 3 1 0 _ ?_ rfl
    rw [(MapKept.heap_alloc _ _).2 _ (by simp)]; exact (MapKept.heap_alloc w _).1

theorem kAll2 (w : World) :
    Calls Try.prog 54 #[] w fun e w' => ∃ b, e = .returned (.map (some b)) ∧ Ext w w' ∧
      ((Instr.lookup 85 (.map (some b)) (.int .u8 2) true).run Try.prog w' = .ok (.tuple #[.agg #[.func (.func 73) #[] #[], .func (.func 74) #[] #[], .func (.func 75) #[] #[]], .bool true]) w') ∧
      (∀ o, (Instr.lookup 85 (.map (some b)) (.int .u8 2) true).run Try.prog (w'.alloc o) = .ok (.tuple #[.agg #[.func (.func 73) #[] #[], .func (.func 74) #[] #[], .func (.func 75) #[] #[]], .bool true]) (w'.alloc o)) := by
  refine (kAll _).mono ?_
  rintro e w1 ⟨rfl, rfl⟩
  refine ⟨_, rfl, by repeat (first | exact Ext.refl _ | assumption | apply Ext.drew | apply Ext.alloc | (refine Ext.setCell ?_ (by simp <;> omega) _) | refine Ext.trans ?_ (by assumption)), ?_, fun o => ?_⟩
  · exact run_look _ _ es3 3 2 1 _ (MapKept.heap_alloc w _).1 rfl
  · refine run_look _ _ es3 3 2 1 _ ?_ rfl
    rw [(MapKept.heap_alloc _ _).2 _ (by simp)]; exact (MapKept.heap_alloc w _).1

theorem kAll3 (w : World) :
    Calls Try.prog 54 #[] w fun e w' => ∃ b, e = .returned (.map (some b)) ∧ Ext w w' ∧
      ((Instr.lookup 85 (.map (some b)) (.int .u8 3) true).run Try.prog w' = .ok (.tuple #[.agg #[.func (.func 76) #[] #[], .func (.func 77) #[] #[], .func (.func 78) #[] #[]], .bool true]) w') ∧
      (∀ o, (Instr.lookup 85 (.map (some b)) (.int .u8 3) true).run Try.prog (w'.alloc o) = .ok (.tuple #[.agg #[.func (.func 76) #[] #[], .func (.func 77) #[] #[], .func (.func 78) #[] #[]], .bool true]) (w'.alloc o)) := by
  refine (kAll _).mono ?_
  rintro e w1 ⟨rfl, rfl⟩
  refine ⟨_, rfl, by repeat (first | exact Ext.refl _ | assumption | apply Ext.drew | apply Ext.alloc | (refine Ext.setCell ?_ (by simp <;> omega) _) | refine Ext.trans ?_ (by assumption)), ?_, fun o => ?_⟩
  · exact run_look _ _ es3 3 3 2 _ (MapKept.heap_alloc w _).1 rfl
  · refine run_look _ _ es3 3 3 2 _ ?_ rfl
    rw [(MapKept.heap_alloc _ _).2 _ (by simp)]; exact (MapKept.heap_alloc w _).1

theorem kAll0 (k : Int) (h1 : k ≠ 1) (h2 : k ≠ 2) (h3 : k ≠ 3) (w : World) :
    Calls Try.prog 54 #[] w fun e w' => ∃ b, e = .returned (.map (some b)) ∧ Ext w w' ∧
      ((Instr.lookup 85 (.map (some b)) (.int .u8 k) true).run Try.prog w' = .ok (.tuple #[.agg #[.nilFunc, .nilFunc, .nilFunc], .bool false]) w') ∧
      (∀ o, (Instr.lookup 85 (.map (some b)) (.int .u8 k) true).run Try.prog (w'.alloc o) = .ok (.tuple #[.agg #[.nilFunc, .nilFunc, .nilFunc], .bool false]) (w'.alloc o)) := by
  refine (kAll _).mono ?_
  rintro e w1 ⟨rfl, rfl⟩
  refine ⟨_, rfl, by repeat (first | exact Ext.refl _ | assumption | apply Ext.drew | apply Ext.alloc | (refine Ext.setCell ?_ (by simp <;> omega) _) | refine Ext.trans ?_ (by assumption)), ?_, fun o => ?_⟩
  · exact run_look_no _ _ es3 3 k _ (MapKept.heap_alloc w _).1 zeroK (find0 k h1 h2 h3)
  · refine run_look_no _ _ es3 3 k _ ?_ zeroK (find0 k h1 h2 h3)
    rw [(MapKept.heap_alloc _ _).2 _ (by simp)]; exact (MapKept.heap_alloc w _).1

set_option maxRecDepth 20000 in
theorem kRight (k : Int) (w : World) :
    Calls Try.prog 37 #[.int .u8 k] w fun e w' => e = .returned (.bool (isK k)) ∧ Ext w w' := by
  rcases kcase k with rfl | rfl | rfl | ⟨h1, h2, h3⟩
  · go_enter Try.func37, Try.ntmps37
    go_wp2_with fail
    refine (kAll1 _).mono ?_
    rintro e w1 ⟨b, rfl, hb, g1, g2⟩
    go_wp2
    go_ret
    exact ⟨rfl, by repeat (first | exact Ext.refl _ | assumption | apply Ext.drew | apply Ext.alloc | (refine Ext.setCell ?_ (by simp <;> omega) _) | refine Ext.trans ?_ (by assumption))⟩
  · go_enter Try.func37, Try.ntmps37
    go_wp2_with fail
    refine (kAll2 _).mono ?_
    rintro e w1 ⟨b, rfl, hb, g1, g2⟩
    go_wp2
    go_ret
    exact ⟨rfl, by repeat (first | exact Ext.refl _ | assumption | apply Ext.drew | apply Ext.alloc | (refine Ext.setCell ?_ (by simp <;> omega) _) | refine Ext.trans ?_ (by assumption))⟩
  · go_enter Try.func37, Try.ntmps37
    go_wp2_with fail
    refine (kAll3 _).mono ?_
    rintro e w1 ⟨b, rfl, hb, g1, g2⟩
    go_wp2
    go_ret
    exact ⟨rfl, by repeat (first | exact Ext.refl _ | assumption | apply Ext.drew | apply Ext.alloc | (refine Ext.setCell ?_ (by simp <;> omega) _) | refine Ext.trans ?_ (by assumption))⟩
  · rw [isK_0 h1 h2 h3]
    go_enter Try.func37, Try.ntmps37
    go_wp2_with fail
    refine (kAll0 k h1 h2 h3 _).mono ?_
    rintro e w1 ⟨b, rfl, hb, g1, g2⟩
    go_wp2
    go_ret
    exact ⟨rfl, by repeat (first | exact Ext.refl _ | assumption | apply Ext.drew | apply Ext.alloc | (refine Ext.setCell ?_ (by simp <;> omega) _) | refine Ext.trans ?_ (by assumption))⟩

set_option maxRecDepth 20000 in
theorem kOf (k now cap fill : Int) (hn : U now) (hc : U cap) (hf : U fill) (w : World) :
    Calls Try.prog 29 #[.int .u8 k, .int .u64 now, .int .u64 cap, .int .u64 fill] w fun e w' =>
      e = .returned (.tuple #[.agg #[.int .u8 (oK k), .int .u64 (oA k now cap fill), .int .u64 (oB k now)], .int .u16 (oE k)]) ∧ Ext w w' := by
  rcases kcase k with rfl | rfl | rfl | ⟨h1, h2, h3⟩
  · go_enter Try.func29, Try.ntmps29
    go_wp2_with fail
    refine (kAll1 _).mono ?_
    rintro e w1 ⟨b, rfl, hb, g1, g2⟩
    have c0 : w1.cell? ⟨w.heap.size, 0, none⟩ = some (.int .u8 0) := hb.reads (by go_simp)
    have c1 : w1.cell? ⟨w.heap.size, 1, none⟩ = some (.int .u64 0) := hb.reads (by go_simp)
    have c2 : w1.cell? ⟨w.heap.size, 2, none⟩ = some (.int .u64 0) := hb.reads (by go_simp)
    have f0 : w1.frozen? ⟨w.heap.size, 0, none⟩ = false := hb.free (v := .int .u8 0) (by go_simp) (by go_simp)
    have f1 : w1.frozen? ⟨w.heap.size, 1, none⟩ = false := hb.free (v := .int .u64 0) (by go_simp) (by go_simp)
    have f2 : w1.frozen? ⟨w.heap.size, 2, none⟩ = false := hb.free (v := .int .u64 0) (by go_simp) (by go_simp)
    have z : w.heap.size < w1.heap.size := by have := hb.size; simp at this; omega
    go_wp2_with fail
    refine (gOf' now cap fill hn hc hf _).mono ?_
    rintro e w2 ⟨rfl, hb2⟩
    have c0' : w2.cell? ⟨w.heap.size, 0, none⟩ = some (.int .u8 0) := hb2.reads (by go_simp)
    have c1' : w2.cell? ⟨w.heap.size, 1, none⟩ = some (.int .u64 0) := hb2.reads (by go_simp)
    have c2' : w2.cell? ⟨w.heap.size, 2, none⟩ = some (.int .u64 0) := hb2.reads (by go_simp)
    have f0' : w2.frozen? ⟨w.heap.size, 0, none⟩ = false := hb2.free (v := .int .u8 0) (by go_simp) (by go_simp)
    have f1' : w2.frozen? ⟨w.heap.size, 1, none⟩ = false := hb2.free (v := .int .u64 0) (by go_simp) (by go_simp)
    have f2' : w2.frozen? ⟨w.heap.size, 2, none⟩ = false := hb2.free (v := .int .u64 0) (by go_simp) (by go_simp)
    go_wp2
    exact bodyPost_ret (v := .tuple #[.agg #[.int .u8 1, .int .u64 (uadd now fill), .int .u64 0], .int .u16 0]) (by simp [results, Try.results29, go_sem, c0', c1', c2']) rfl ⟨rfl, by repeat (first | exact Ext.refl _ | assumption | apply Ext.drew | apply Ext.alloc | (refine Ext.setCell ?_ (by simp <;> omega) _) | refine Ext.trans ?_ (by assumption))⟩
  · go_enter Try.func29, Try.ntmps29
    go_wp2_with fail
    refine (kAll2 _).mono ?_
    rintro e w1 ⟨b, rfl, hb, g1, g2⟩
    have c0 : w1.cell? ⟨w.heap.size, 0, none⟩ = some (.int .u8 0) := hb.reads (by go_simp)
    have c1 : w1.cell? ⟨w.heap.size, 1, none⟩ = some (.int .u64 0) := hb.reads (by go_simp)
    have c2 : w1.cell? ⟨w.heap.size, 2, none⟩ = some (.int .u64 0) := hb.reads (by go_simp)
    have f0 : w1.frozen? ⟨w.heap.size, 0, none⟩ = false := hb.free (v := .int .u8 0) (by go_simp) (by go_simp)
    have f1 : w1.frozen? ⟨w.heap.size, 1, none⟩ = false := hb.free (v := .int .u64 0) (by go_simp) (by go_simp)
    have f2 : w1.frozen? ⟨w.heap.size, 2, none⟩ = false := hb.free (v := .int .u64 0) (by go_simp) (by go_simp)
    have z : w.heap.size < w1.heap.size := by have := hb.size; simp at this; omega
    go_wp2_with fail
    refine (bOf now cap fill hn hc hf _).mono ?_
    rintro e w2 ⟨rfl, hb2⟩
    have c0' : w2.cell? ⟨w.heap.size, 0, none⟩ = some (.int .u8 0) := hb2.reads (by go_simp)
    have c1' : w2.cell? ⟨w.heap.size, 1, none⟩ = some (.int .u64 0) := hb2.reads (by go_simp)
    have c2' : w2.cell? ⟨w.heap.size, 2, none⟩ = some (.int .u64 0) := hb2.reads (by go_simp)
    have f0' : w2.frozen? ⟨w.heap.size, 0, none⟩ = false := hb2.free (v := .int .u8 0) (by go_simp) (by go_simp)
    have f1' : w2.frozen? ⟨w.heap.size, 1, none⟩ = false := hb2.free (v := .int .u64 0) (by go_simp) (by go_simp)
    have f2' : w2.frozen? ⟨w.heap.size, 2, none⟩ = false := hb2.free (v := .int .u64 0) (by go_simp) (by go_simp)
    go_wp2
    exact bodyPost_ret (v := .tuple #[.agg #[.int .u8 2, .int .u64 (usub cap fill), .int .u64 now], .int .u16 0]) (by simp [results, Try.results29, go_sem, c0', c1', c2']) rfl ⟨rfl, by repeat (first | exact Ext.refl _ | assumption | apply Ext.drew | apply Ext.alloc | (refine Ext.setCell ?_ (by simp <;> omega) _) | refine Ext.trans ?_ (by assumption))⟩
  · go_enter Try.func29, Try.ntmps29
    go_wp2_with fail
    refine (kAll3 _).mono ?_
    rintro e w1 ⟨b, rfl, hb, g1, g2⟩
    have c0 : w1.cell? ⟨w.heap.size, 0, none⟩ = some (.int .u8 0) := hb.reads (by go_simp)
    have c1 : w1.cell? ⟨w.heap.size, 1, none⟩ = some (.int .u64 0) := hb.reads (by go_simp)
    have c2 : w1.cell? ⟨w.heap.size, 2, none⟩ = some (.int .u64 0) := hb.reads (by go_simp)
    have f0 : w1.frozen? ⟨w.heap.size, 0, none⟩ = false := hb.free (v := .int .u8 0) (by go_simp) (by go_simp)
    have f1 : w1.frozen? ⟨w.heap.size, 1, none⟩ = false := hb.free (v := .int .u64 0) (by go_simp) (by go_simp)
    have f2 : w1.frozen? ⟨w.heap.size, 2, none⟩ = false := hb.free (v := .int .u64 0) (by go_simp) (by go_simp)
    have z : w.heap.size < w1.heap.size := by have := hb.size; simp at this; omega
    go_wp2_with fail
    refine (lOf' now cap fill hn hc hf _).mono ?_
    rintro e w2 ⟨rfl, hb2⟩
    have c0' : w2.cell? ⟨w.heap.size, 0, none⟩ = some (.int .u8 0) := hb2.reads (by go_simp)
    have c1' : w2.cell? ⟨w.heap.size, 1, none⟩ = some (.int .u64 0) := hb2.reads (by go_simp)
    have c2' : w2.cell? ⟨w.heap.size, 2, none⟩ = some (.int .u64 0) := hb2.reads (by go_simp)
    have f0' : w2.frozen? ⟨w.heap.size, 0, none⟩ = false := hb2.free (v := .int .u8 0) (by go_simp) (by go_simp)
    have f1' : w2.frozen? ⟨w.heap.size, 1, none⟩ = false := hb2.free (v := .int .u64 0) (by go_simp) (by go_simp)
    have f2' : w2.frozen? ⟨w.heap.size, 2, none⟩ = false := hb2.free (v := .int .u64 0) (by go_simp) (by go_simp)
    go_wp2
    exact bodyPost_ret (v := .tuple #[.agg #[.int .u8 3, .int .u64 fill, .int .u64 now], .int .u16 0]) (by simp [results, Try.results29, go_sem, c0', c1', c2']) rfl ⟨rfl, by repeat (first | exact Ext.refl _ | assumption | apply Ext.drew | apply Ext.alloc | (refine Ext.setCell ?_ (by simp <;> omega) _) | refine Ext.trans ?_ (by assumption))⟩
  · rw [oK_0 h1 h2 h3, oA_0 _ _ _ h1 h2 h3, oB_0 _ h1 h2 h3, oE_0 h1 h2 h3]
    go_enter Try.func29, Try.ntmps29
    go_wp2_with fail
    refine (kAll0 k h1 h2 h3 _).mono ?_
    rintro e w1 ⟨b, rfl, hb, g1, g2⟩
    have c0 : w1.cell? ⟨w.heap.size, 0, none⟩ = some (.int .u8 0) := hb.reads (by go_simp)
    have c1 : w1.cell? ⟨w.heap.size, 1, none⟩ = some (.int .u64 0) := hb.reads (by go_simp)
    have c2 : w1.cell? ⟨w.heap.size, 2, none⟩ = some (.int .u64 0) := hb.reads (by go_simp)
    have f0 : w1.frozen? ⟨w.heap.size, 0, none⟩ = false := hb.free (v := .int .u8 0) (by go_simp) (by go_simp)
    have f1 : w1.frozen? ⟨w.heap.size, 1, none⟩ = false := hb.free (v := .int .u64 0) (by go_simp) (by go_simp)
    have f2 : w1.frozen? ⟨w.heap.size, 2, none⟩ = false := hb.free (v := .int .u64 0) (by go_simp) (by go_simp)
    have z : w.heap.size < w1.heap.size := by have := hb.size; simp at this; omega
    go_wp2
    exact bodyPost_ret (v := .tuple #[.agg #[.int .u8 0, .int .u64 0, .int .u64 0], .int .u16 27]) (by simp [results, Try.results29, go_sem, c0, c1, c2, z]) rfl ⟨rfl, by repeat (first | exact Ext.refl _ | assumption | apply Ext.drew | apply Ext.alloc | (refine Ext.setCell ?_ (by simp <;> omega) _) | refine Ext.trans ?_ (by assumption))⟩

end Go.Proofs.Ytfabgfenelaheaa
