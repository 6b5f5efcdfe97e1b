/- Contracts of the layer kernel: Decide. -/
import Derived.Test.YtdgcgpapcbjfhaaGreatDoorJ02Bucket
import Derived.Test.YtdgcgpapcbjfhaaGreatDoorJ01SpecK
import Derived.Test.YtdgcgpapcbjfhaaGreatDoorJ38Leaky
import Derived.Test.YtdgcgpapcbjfhaaGreatDoorJ39Gcra
import Derived.RegionTactic
import Derived.Deep.RegionHeld3
import Derived.Deep.Cut
set_option linter.unusedVariables false
set_option linter.unusedSimpArgs false

/- Contracts of the layer kernel. -/
namespace Go.Proofs.YtdgcgpapcbjfhaaGreatDoor
open Go.RowKit

attribute [local go_sem] ite_min ite_max

/-- What all() holds. -/
def es3 : Array MapEntry := #[{ key := .int .u8 1, val := (.agg #[.func (.func 197) #[] #[], .func (.func 198) #[] #[], .func (.func 199) #[] #[]]), born := 0 },
  { key := .int .u8 2, val := (.agg #[.func (.func 200) #[] #[], .func (.func 201) #[] #[], .func (.func 202) #[] #[]]), born := 1 },
  { key := .int .u8 3, val := (.agg #[.func (.func 203) #[] #[], .func (.func 204) #[] #[], .func (.func 205) #[] #[]]), born := 2 }]

theorem alloc_set (w : World) (a b : Obj) : { (w.alloc a) with heap := (w.alloc a).heap.setIfInBounds w.heap.size b } = w.alloc b := by
  have h : (w.heap.push a).setIfInBounds w.heap.size b = w.heap.push b := by apply Array.ext'; simp
  show ({ w with heap := (w.heap.push a).setIfInBounds w.heap.size b } : World) = { w with heap := w.heap.push b }
  rw [h]

theorem ins_alloc (w : World) (es : Array MapEntry) (clock : Nat) (k : Int) (val : Value) (hf : Instr.findNow (.int .u8) (.int .u8 k) es.toList 0 = some none) :
    (Instr.mapUpdate 263 (.map (some w.heap.size)) (.int .u8 k) val).run Tryz.prog (w.alloc (.map es clock)) = .ok () (w.alloc (.map (es.push { key := .int .u8 k, val := val, born := clock }) (clock + 1))) := by
  rw [run_ins (w.alloc (.map es clock)) w.heap.size es clock k val (MapKept.heap_alloc w _).1 hf, alloc_set]

set_option maxRecDepth 20000 in
theorem kAllW (w : World) :
    Calls Tryz.prog 162 #[] w fun e w' => e = .returned (.map (some w.heap.size)) ∧ w.alloc (.map es3 3) = w' := by
  have hmm := @run_makeMap Tryz.prog
  have h1 : (Instr.mapUpdate 263 (.map (some w.heap.size)) (.int .u8 1) (.agg #[.func (.func 197) #[] #[], .func (.func 198) #[] #[], .func (.func 199) #[] #[]])).run Tryz.prog (w.alloc (.map #[] 0)) = .ok () (w.alloc (.map #[{ key := .int .u8 1, val := (.agg #[.func (.func 197) #[] #[], .func (.func 198) #[] #[], .func (.func 199) #[] #[]]), born := 0 }] 1)) := ins_alloc w _ 0 1 _ rfl
  have h2 : (Instr.mapUpdate 263 (.map (some w.heap.size)) (.int .u8 2) (.agg #[.func (.func 200) #[] #[], .func (.func 201) #[] #[], .func (.func 202) #[] #[]])).run Tryz.prog (w.alloc (.map #[{ key := .int .u8 1, val := (.agg #[.func (.func 197) #[] #[], .func (.func 198) #[] #[], .func (.func 199) #[] #[]]), born := 0 }] 1)) = .ok () (w.alloc (.map #[{ key := .int .u8 1, val := (.agg #[.func (.func 197) #[] #[], .func (.func 198) #[] #[], .func (.func 199) #[] #[]]), born := 0 }, { key := .int .u8 2, val := (.agg #[.func (.func 200) #[] #[], .func (.func 201) #[] #[], .func (.func 202) #[] #[]]), born := 1 }] 2)) := ins_alloc w _ 1 2 _ rfl
  have h3 : (Instr.mapUpdate 263 (.map (some w.heap.size)) (.int .u8 3) (.agg #[.func (.func 203) #[] #[], .func (.func 204) #[] #[], .func (.func 205) #[] #[]])).run Tryz.prog (w.alloc (.map #[{ key := .int .u8 1, val := (.agg #[.func (.func 197) #[] #[], .func (.func 198) #[] #[], .func (.func 199) #[] #[]]), born := 0 }, { key := .int .u8 2, val := (.agg #[.func (.func 200) #[] #[], .func (.func 201) #[] #[], .func (.func 202) #[] #[]]), born := 1 }] 2)) = .ok () (w.alloc (.map #[{ key := .int .u8 1, val := (.agg #[.func (.func 197) #[] #[], .func (.func 198) #[] #[], .func (.func 199) #[] #[]]), born := 0 }, { key := .int .u8 2, val := (.agg #[.func (.func 200) #[] #[], .func (.func 201) #[] #[], .func (.func 202) #[] #[]]), born := 1 }, { key := .int .u8 3, val := (.agg #[.func (.func 203) #[] #[], .func (.func 204) #[] #[], .func (.func 205) #[] #[]]), born := 2 }] 3)) := ins_alloc w _ 2 3 _ rfl
  unfold es3
  go_enter Tryz.func162, Tryz.ntmps162
  go_wp2
  go_ret
  exact ⟨rfl, rfl⟩

theorem find0 (k : Int) (h1 : k ≠ 1) (h2 : k ≠ 2) (h3 : k ≠ 3) : Instr.findNow (.int .u8) (.int .u8 k) es3.toList 0 = some none := by
  have b1 := beq_false_of_ne h1
  have b2 := beq_false_of_ne h2
  have b3 := beq_false_of_ne h3
  simp [es3, Instr.findNow, Instr.sameNow, b1, b2, b3]

theorem kAll1 (w : World) :
    Calls Tryz.prog 162 #[] w fun e w' => ∃ b, e = .returned (.map (some b)) ∧ Ext w w' ∧
      ((Instr.lookup 263 (.map (some b)) (.int .u8 1) true).run Tryz.prog w' = .ok (.tuple #[.agg #[.func (.func 197) #[] #[], .func (.func 198) #[] #[], .func (.func 199) #[] #[]], .bool true]) w') ∧
      (∀ o, (Instr.lookup 263 (.map (some b)) (.int .u8 1) true).run Tryz.prog (w'.alloc o) = .ok (.tuple #[.agg #[.func (.func 197) #[] #[], .func (.func 198) #[] #[], .func (.func 199) #[] #[]], .bool true]) (w'.alloc o)) := by
  refine (kAllW _).mono ?_
  rintro e w1 ⟨rfl, rfl⟩
  refine ⟨_, rfl, by repeat (first | exact Ext.refl _ | assumption | apply Ext.drew | apply Ext.alloc | (refine Ext.setCell ?_ (by simp <;> omega) _) | refine Ext.trans ?_ (by assumption)), ?_, fun o => ?_⟩
  · exact run_look _ _ es3 3 1 0 _ (MapKept.heap_alloc w _).1 rfl
  · refine run_look _ _ es3 3 1 0 _ ?_ rfl
    rw [(MapKept.heap_alloc _ _).2 _ (by simp)]; exact (MapKept.heap_alloc w _).1

theorem kAll2 (w : World) :
    Calls Tryz.prog 162 #[] w fun e w' => ∃ b, e = .returned (.map (some b)) ∧ Ext w w' ∧
      ((Instr.lookup 263 (.map (some b)) (.int .u8 2) true).run Tryz.prog w' = .ok (.tuple #[.agg #[.func (.func 200) #[] #[], .func (.func 201) #[] #[], .func (.func 202) #[] #[]], .bool true]) w') ∧
      (∀ o, (Instr.lookup 263 (.map (some b)) (.int .u8 2) true).run Tryz.prog (w'.alloc o) = .ok (.tuple #[.agg #[.func (.func 200) #[] #[], .func (.func 201) #[] #[], .func (.func 202) #[] #[]], .bool true]) (w'.alloc o)) := by
  refine (kAllW _).mono ?_
  rintro e w1 ⟨rfl, rfl⟩
  refine ⟨_, rfl, by repeat (first | exact Ext.refl _ | assumption | apply Ext.drew | apply Ext.alloc | (refine Ext.setCell ?_ (by simp <;> omega) _) | refine Ext.trans ?_ (by assumption)), ?_, fun o => ?_⟩
  · exact run_look _ _ es3 3 2 1 _ (MapKept.heap_alloc w _).1 rfl
  · refine run_look _ _ es3 3 2 1 _ ?_ rfl
    rw [(MapKept.heap_alloc _ _).2 _ (by simp)]; exact (MapKept.heap_alloc w _).1

theorem kAll3 (w : World) :
    Calls Tryz.prog 162 #[] w fun e w' => ∃ b, e = .returned (.map (some b)) ∧ Ext w w' ∧
      ((Instr.lookup 263 (.map (some b)) (.int .u8 3) true).run Tryz.prog w' = .ok (.tuple #[.agg #[.func (.func 203) #[] #[], .func (.func 204) #[] #[], .func (.func 205) #[] #[]], .bool true]) w') ∧
      (∀ o, (Instr.lookup 263 (.map (some b)) (.int .u8 3) true).run Tryz.prog (w'.alloc o) = .ok (.tuple #[.agg #[.func (.func 203) #[] #[], .func (.func 204) #[] #[], .func (.func 205) #[] #[]], .bool true]) (w'.alloc o)) := by
  refine (kAllW _).mono ?_
  rintro e w1 ⟨rfl, rfl⟩
  refine ⟨_, rfl, by repeat (first | exact Ext.refl _ | assumption | apply Ext.drew | apply Ext.alloc | (refine Ext.setCell ?_ (by simp <;> omega) _) | refine Ext.trans ?_ (by assumption)), ?_, fun o => ?_⟩
  · exact run_look _ _ es3 3 3 2 _ (MapKept.heap_alloc w _).1 rfl
  · refine run_look _ _ es3 3 3 2 _ ?_ rfl
    rw [(MapKept.heap_alloc _ _).2 _ (by simp)]; exact (MapKept.heap_alloc w _).1

theorem kAll0 (k : Int) (h1 : k ≠ 1) (h2 : k ≠ 2) (h3 : k ≠ 3) (w : World) :
    Calls Tryz.prog 162 #[] w fun e w' => ∃ b, e = .returned (.map (some b)) ∧ Ext w w' ∧
      ((Instr.lookup 263 (.map (some b)) (.int .u8 k) true).run Tryz.prog w' = .ok (.tuple #[.agg #[.nilFunc, .nilFunc, .nilFunc], .bool false]) w') ∧
      (∀ o, (Instr.lookup 263 (.map (some b)) (.int .u8 k) true).run Tryz.prog (w'.alloc o) = .ok (.tuple #[.agg #[.nilFunc, .nilFunc, .nilFunc], .bool false]) (w'.alloc o)) := by
  refine (kAllW _).mono ?_
  rintro e w1 ⟨rfl, rfl⟩
  refine ⟨_, rfl, by repeat (first | exact Ext.refl _ | assumption | apply Ext.drew | apply Ext.alloc | (refine Ext.setCell ?_ (by simp <;> omega) _) | refine Ext.trans ?_ (by assumption)), ?_, fun o => ?_⟩
  · exact run_look_no _ _ es3 3 k _ (MapKept.heap_alloc w _).1 zeroK (find0 k h1 h2 h3)
  · refine run_look_no _ _ es3 3 k _ ?_ zeroK (find0 k h1 h2 h3)
    rw [(MapKept.heap_alloc _ _).2 _ (by simp)]; exact (MapKept.heap_alloc w _).1

set_option maxRecDepth 20000 in
theorem kIsRight (k : Int) (w : World) :
    Calls Tryz.prog 131 #[.int .u8 k] w fun e w' => e = .returned (.bool (isK k)) ∧ Ext w w' := by
  rcases kcase k with rfl | rfl | rfl | ⟨h1, h2, h3⟩
  · go_enter Tryz.func131, Tryz.ntmps131
    go_wp2_with fail
    refine (kAll1 _).mono ?_
    rintro e w1 ⟨b, rfl, hb, g1, g2⟩
    go_wp2
    go_ret
    exact ⟨rfl, by repeat (first | exact Ext.refl _ | assumption | apply Ext.drew | apply Ext.alloc | (refine Ext.setCell ?_ (by simp <;> omega) _) | refine Ext.trans ?_ (by assumption))⟩
  · go_enter Tryz.func131, Tryz.ntmps131
    go_wp2_with fail
    refine (kAll2 _).mono ?_
    rintro e w1 ⟨b, rfl, hb, g1, g2⟩
    go_wp2
    go_ret
    exact ⟨rfl, by repeat (first | exact Ext.refl _ | assumption | apply Ext.drew | apply Ext.alloc | (refine Ext.setCell ?_ (by simp <;> omega) _) | refine Ext.trans ?_ (by assumption))⟩
  · go_enter Tryz.func131, Tryz.ntmps131
    go_wp2_with fail
    refine (kAll3 _).mono ?_
    rintro e w1 ⟨b, rfl, hb, g1, g2⟩
    go_wp2
    go_ret
    exact ⟨rfl, by repeat (first | exact Ext.refl _ | assumption | apply Ext.drew | apply Ext.alloc | (refine Ext.setCell ?_ (by simp <;> omega) _) | refine Ext.trans ?_ (by assumption))⟩
  · rw [isK_0 h1 h2 h3]
    go_enter Tryz.func131, Tryz.ntmps131
    go_wp2_with fail
    refine (kAll0 k h1 h2 h3 _).mono ?_
    rintro e w1 ⟨b, rfl, hb, g1, g2⟩
    go_wp2
    go_ret
    exact ⟨rfl, by repeat (first | exact Ext.refl _ | assumption | apply Ext.drew | apply Ext.alloc | (refine Ext.setCell ?_ (by simp <;> omega) _) | refine Ext.trans ?_ (by assumption))⟩

set_option maxRecDepth 20000 in
theorem kOf (k now cap fill : Int) (hn : U now) (hc : U cap) (hf : U fill) (w : World) :
    Calls Tryz.prog 125 #[.int .u8 k, .int .u64 now, .int .u64 cap, .int .u64 fill] w fun e w' =>
      e = .returned (.tuple #[.agg #[.int .u8 (oK k), .int .u64 (oA k now cap fill), .int .u64 (oB k now)], .int .u16 (oE k)]) ∧ Ext w w' := by
  rcases kcase k with rfl | rfl | rfl | ⟨h1, h2, h3⟩
  · go_enter Tryz.func125, Tryz.ntmps125
    go_wp2_with fail
    refine (kAll1 _).mono ?_
    rintro e w1 ⟨b, rfl, hb, g1, g2⟩
    have c0 : w1.cell? ⟨w.heap.size, 0, none⟩ = some (.int .u8 0) := hb.reads (by go_simp)
    have c1 : w1.cell? ⟨w.heap.size, 1, none⟩ = some (.int .u64 0) := hb.reads (by go_simp)
    have c2 : w1.cell? ⟨w.heap.size, 2, none⟩ = some (.int .u64 0) := hb.reads (by go_simp)
    have f0 : w1.frozen? ⟨w.heap.size, 0, none⟩ = false := hb.free (v := .int .u8 0) (by go_simp) (by go_simp)
    have f1 : w1.frozen? ⟨w.heap.size, 1, none⟩ = false := hb.free (v := .int .u64 0) (by go_simp) (by go_simp)
    have f2 : w1.frozen? ⟨w.heap.size, 2, none⟩ = false := hb.free (v := .int .u64 0) (by go_simp) (by go_simp)
    have z : w.heap.size < w1.heap.size := by have := hb.size; simp at this; omega
    go_wp2_with fail
    refine (gOf' now cap fill hn hc hf _).mono ?_
    rintro e w2 ⟨rfl, hb2⟩
    have c0' : w2.cell? ⟨w.heap.size, 0, none⟩ = some (.int .u8 0) := hb2.reads (by go_simp)
    have c1' : w2.cell? ⟨w.heap.size, 1, none⟩ = some (.int .u64 0) := hb2.reads (by go_simp)
    have c2' : w2.cell? ⟨w.heap.size, 2, none⟩ = some (.int .u64 0) := hb2.reads (by go_simp)
    have f0' : w2.frozen? ⟨w.heap.size, 0, none⟩ = false := hb2.free (v := .int .u8 0) (by go_simp) (by go_simp)
    have f1' : w2.frozen? ⟨w.heap.size, 1, none⟩ = false := hb2.free (v := .int .u64 0) (by go_simp) (by go_simp)
    have f2' : w2.frozen? ⟨w.heap.size, 2, none⟩ = false := hb2.free (v := .int .u64 0) (by go_simp) (by go_simp)
    go_wp2
    exact bodyPost_ret (v := .tuple #[.agg #[.int .u8 1, .int .u64 (uadd now fill), .int .u64 0], .int .u16 0]) (by simp [results, Tryz.results125, go_sem, c0', c1', c2']) rfl ⟨rfl, by repeat (first | exact Ext.refl _ | assumption | apply Ext.drew | apply Ext.alloc | (refine Ext.setCell ?_ (by simp <;> omega) _) | refine Ext.trans ?_ (by assumption))⟩
  · go_enter Tryz.func125, Tryz.ntmps125
    go_wp2_with fail
    refine (kAll2 _).mono ?_
    rintro e w1 ⟨b, rfl, hb, g1, g2⟩
    have c0 : w1.cell? ⟨w.heap.size, 0, none⟩ = some (.int .u8 0) := hb.reads (by go_simp)
    have c1 : w1.cell? ⟨w.heap.size, 1, none⟩ = some (.int .u64 0) := hb.reads (by go_simp)
    have c2 : w1.cell? ⟨w.heap.size, 2, none⟩ = some (.int .u64 0) := hb.reads (by go_simp)
    have f0 : w1.frozen? ⟨w.heap.size, 0, none⟩ = false := hb.free (v := .int .u8 0) (by go_simp) (by go_simp)
    have f1 : w1.frozen? ⟨w.heap.size, 1, none⟩ = false := hb.free (v := .int .u64 0) (by go_simp) (by go_simp)
    have f2 : w1.frozen? ⟨w.heap.size, 2, none⟩ = false := hb.free (v := .int .u64 0) (by go_simp) (by go_simp)
    have z : w.heap.size < w1.heap.size := by have := hb.size; simp at this; omega
    go_wp2_with fail
    refine (bOf now cap fill hn hc hf _).mono ?_
    rintro e w2 ⟨rfl, hb2⟩
    have c0' : w2.cell? ⟨w.heap.size, 0, none⟩ = some (.int .u8 0) := hb2.reads (by go_simp)
    have c1' : w2.cell? ⟨w.heap.size, 1, none⟩ = some (.int .u64 0) := hb2.reads (by go_simp)
    have c2' : w2.cell? ⟨w.heap.size, 2, none⟩ = some (.int .u64 0) := hb2.reads (by go_simp)
    have f0' : w2.frozen? ⟨w.heap.size, 0, none⟩ = false := hb2.free (v := .int .u8 0) (by go_simp) (by go_simp)
    have f1' : w2.frozen? ⟨w.heap.size, 1, none⟩ = false := hb2.free (v := .int .u64 0) (by go_simp) (by go_simp)
    have f2' : w2.frozen? ⟨w.heap.size, 2, none⟩ = false := hb2.free (v := .int .u64 0) (by go_simp) (by go_simp)
    go_wp2
    exact bodyPost_ret (v := .tuple #[.agg #[.int .u8 2, .int .u64 (usub cap fill), .int .u64 now], .int .u16 0]) (by simp [results, Tryz.results125, go_sem, c0', c1', c2']) rfl ⟨rfl, by repeat (first | exact Ext.refl _ | assumption | apply Ext.drew | apply Ext.alloc | (refine Ext.setCell ?_ (by simp <;> omega) _) | refine Ext.trans ?_ (by assumption))⟩
  · go_enter Tryz.func125, Tryz.ntmps125
    go_wp2_with fail
    refine (kAll3 _).mono ?_
    rintro e w1 ⟨b, rfl, hb, g1, g2⟩
    have c0 : w1.cell? ⟨w.heap.size, 0, none⟩ = some (.int .u8 0) := hb.reads (by go_simp)
    have c1 : w1.cell? ⟨w.heap.size, 1, none⟩ = some (.int .u64 0) := hb.reads (by go_simp)
    have c2 : w1.cell? ⟨w.heap.size, 2, none⟩ = some (.int .u64 0) := hb.reads (by go_simp)
    have f0 : w1.frozen? ⟨w.heap.size, 0, none⟩ = false := hb.free (v := .int .u8 0) (by go_simp) (by go_simp)
    have f1 : w1.frozen? ⟨w.heap.size, 1, none⟩ = false := hb.free (v := .int .u64 0) (by go_simp) (by go_simp)
    have f2 : w1.frozen? ⟨w.heap.size, 2, none⟩ = false := hb.free (v := .int .u64 0) (by go_simp) (by go_simp)
    have z : w.heap.size < w1.heap.size := by have := hb.size; simp at this; omega
    go_wp2_with fail
    refine (lOf' now cap fill hn hc hf _).mono ?_
    rintro e w2 ⟨rfl, hb2⟩
    have c0' : w2.cell? ⟨w.heap.size, 0, none⟩ = some (.int .u8 0) := hb2.reads (by go_simp)
    have c1' : w2.cell? ⟨w.heap.size, 1, none⟩ = some (.int .u64 0) := hb2.reads (by go_simp)
    have c2' : w2.cell? ⟨w.heap.size, 2, none⟩ = some (.int .u64 0) := hb2.reads (by go_simp)
    have f0' : w2.frozen? ⟨w.heap.size, 0, none⟩ = false := hb2.free (v := .int .u8 0) (by go_simp) (by go_simp)
    have f1' : w2.frozen? ⟨w.heap.size, 1, none⟩ = false := hb2.free (v := .int .u64 0) (by go_simp) (by go_simp)
    have f2' : w2.frozen? ⟨w.heap.size, 2, none⟩ = false := hb2.free (v := .int .u64 0) (by go_simp) (by go_simp)
    go_wp2
    exact bodyPost_ret (v := .tuple #[.agg #[.int .u8 3, .int .u64 fill, .int .u64 now], .int .u16 0]) (by simp [results, Tryz.results125, go_sem, c0', c1', c2']) rfl ⟨rfl, by repeat (first | exact Ext.refl _ | assumption | apply Ext.drew | apply Ext.alloc | (refine Ext.setCell ?_ (by simp <;> omega) _) | refine Ext.trans ?_ (by assumption))⟩
  · rw [oK_0 h1 h2 h3, oA_0 _ _ _ h1 h2 h3, oB_0 _ h1 h2 h3, oE_0 h1 h2 h3]
    go_enter Tryz.func125, Tryz.ntmps125
    go_wp2_with fail
    refine (kAll0 k h1 h2 h3 _).mono ?_
    rintro e w1 ⟨b, rfl, hb, g1, g2⟩
    have c0 : w1.cell? ⟨w.heap.size, 0, none⟩ = some (.int .u8 0) := hb.reads (by go_simp)
    have c1 : w1.cell? ⟨w.heap.size, 1, none⟩ = some (.int .u64 0) := hb.reads (by go_simp)
    have c2 : w1.cell? ⟨w.heap.size, 2, none⟩ = some (.int .u64 0) := hb.reads (by go_simp)
    have f0 : w1.frozen? ⟨w.heap.size, 0, none⟩ = false := hb.free (v := .int .u8 0) (by go_simp) (by go_simp)
    have f1 : w1.frozen? ⟨w.heap.size, 1, none⟩ = false := hb.free (v := .int .u64 0) (by go_simp) (by go_simp)
    have f2 : w1.frozen? ⟨w.heap.size, 2, none⟩ = false := hb.free (v := .int .u64 0) (by go_simp) (by go_simp)
    have z : w.heap.size < w1.heap.size := by have := hb.size; simp at this; omega
    go_wp2
    exact bodyPost_ret (v := .tuple #[.agg #[.int .u8 0, .int .u64 0, .int .u64 0], .int .u16 27]) (by simp [results, Tryz.results125, go_sem, c0, c1, c2, z]) rfl ⟨rfl, by repeat (first | exact Ext.refl _ | assumption | apply Ext.drew | apply Ext.alloc | (refine Ext.setCell ?_ (by simp <;> omega) _) | refine Ext.trans ?_ (by assumption))⟩

end Go.Proofs.YtdgcgpapcbjfhaaGreatDoor

/- Contracts of the layer kernel: Fill, Decide. -/
namespace Go.Proofs.YtdgcgpapcbjfhaaGreatDoor
open Go.RowKit

attribute [local go_sem] ite_min ite_max

set_option maxRecDepth 20000 in
theorem kFill1 (A B now cap : Int) (hA : U A) (hB : U B) (hn : U now) (hc : U cap) (w : World) :
    Calls Tryz.prog 130 #[.agg #[.int .u8 1, .int .u64 A, .int .u64 B], .int .u64 now, .int .u64 cap] w fun e w' =>
      e = .returned (.int .u64 (fil 1 A B now cap)) ∧ Ext w w' := by
  go_enter Tryz.func130, Tryz.ntmps130
  go_wp2
  go_region_held3 (fun w' => w'.cell? ⟨w.heap.size, 0, none⟩ = some (.int .u8 1) ∧ w'.cell? ⟨w.heap.size, 1, none⟩ = some (.int .u64 A) ∧ w'.cell? ⟨w.heap.size, 2, none⟩ = some (.int .u64 B))
    (first
      | go_keep
      | (go_split_ands
         refine ⟨hb.reads ?_, hb.reads ?_, hb.reads ?_⟩ <;> assumption)
      | (refine ⟨?_, ?_, ?_⟩ <;> (go_simp; done)))
      (first
      | (go_at_call 162; refine (kAll1 _).mono ?_; rintro e w1 ⟨b, rfl, hb, g1, g2⟩
         have s0 : w1.cell? ⟨w.heap.size, 0, none⟩ = some (.int .u8 1) := hb.reads (by go_simp)
         have s1 : w1.cell? ⟨w.heap.size, 1, none⟩ = some (.int .u64 A) := hb.reads (by go_simp)
         have s2 : w1.cell? ⟨w.heap.size, 2, none⟩ = some (.int .u64 B) := hb.reads (by go_simp)
         have hb0 : Ext ((w.alloc (.cells #[.int .u8 1, .int .u64 A, .int .u64 B] 194)).alloc (.cells #[.nilFunc, .nilFunc, .nilFunc] 261)).drew w1 := hb
         have n0 : w1.cell? ⟨w.heap.size + 1, 0, none⟩ = some .nilFunc := hb.reads (by go_simp)
         have n1 : w1.cell? ⟨w.heap.size + 1, 1, none⟩ = some .nilFunc := hb.reads (by go_simp)
         have n2 : w1.cell? ⟨w.heap.size + 1, 2, none⟩ = some .nilFunc := hb.reads (by go_simp)
         have f0 : w1.frozen? ⟨w.heap.size + 1, 0, none⟩ = false := hb.free (v := .nilFunc) (by go_simp) (by go_simp)
         have f1 : w1.frozen? ⟨w.heap.size + 1, 1, none⟩ = false := hb.free (v := .nilFunc) (by go_simp) (by go_simp)
         have f2 : w1.frozen? ⟨w.heap.size + 1, 2, none⟩ = false := hb.free (v := .nilFunc) (by go_simp) (by go_simp)
        )
      | (go_at_call 162; refine (kAll1 _).mono ?_; rintro e w1 ⟨b, rfl, hb, g1, g2⟩
         have s0 : w1.cell? ⟨w.heap.size, 0, none⟩ = some (.int .u8 1) := hb.reads (by go_simp)
         have s1 : w1.cell? ⟨w.heap.size, 1, none⟩ = some (.int .u64 A) := hb.reads (by go_simp)
         have s2 : w1.cell? ⟨w.heap.size, 2, none⟩ = some (.int .u64 B) := hb.reads (by go_simp)
        ))
  all_goals
    go_wp2_with fail
    refine (gFill' 1 A B now cap hA hB hn hc _).mono ?_
    rintro e w2 ⟨rfl, hb2⟩
    go_wp2
    go_ret
    exact ⟨rfl, by repeat (first | exact Ext.refl _ | assumption | apply Ext.drew | apply Ext.alloc | (refine Ext.setCell ?_ (by simp <;> omega) _) | refine Ext.trans ?_ (by assumption))⟩

set_option maxRecDepth 20000 in
theorem kFill2 (A B now cap : Int) (hA : U A) (hB : U B) (hn : U now) (hc : U cap) (w : World) :
    Calls Tryz.prog 130 #[.agg #[.int .u8 2, .int .u64 A, .int .u64 B], .int .u64 now, .int .u64 cap] w fun e w' =>
      e = .returned (.int .u64 (fil 2 A B now cap)) ∧ Ext w w' := by
  go_enter Tryz.func130, Tryz.ntmps130
  go_wp2
  go_region_held3 (fun w' => w'.cell? ⟨w.heap.size, 0, none⟩ = some (.int .u8 2) ∧ w'.cell? ⟨w.heap.size, 1, none⟩ = some (.int .u64 A) ∧ w'.cell? ⟨w.heap.size, 2, none⟩ = some (.int .u64 B))
    (first
      | go_keep
      | (go_split_ands
         refine ⟨hb.reads ?_, hb.reads ?_, hb.reads ?_⟩ <;> assumption)
      | (refine ⟨?_, ?_, ?_⟩ <;> (go_simp; done)))
      (first
      | (go_at_call 162; refine (kAll2 _).mono ?_; rintro e w1 ⟨b, rfl, hb, g1, g2⟩
         have s0 : w1.cell? ⟨w.heap.size, 0, none⟩ = some (.int .u8 2) := hb.reads (by go_simp)
         have s1 : w1.cell? ⟨w.heap.size, 1, none⟩ = some (.int .u64 A) := hb.reads (by go_simp)
         have s2 : w1.cell? ⟨w.heap.size, 2, none⟩ = some (.int .u64 B) := hb.reads (by go_simp)
         have hb0 : Ext ((w.alloc (.cells #[.int .u8 2, .int .u64 A, .int .u64 B] 194)).alloc (.cells #[.nilFunc, .nilFunc, .nilFunc] 261)).drew w1 := hb
         have n0 : w1.cell? ⟨w.heap.size + 1, 0, none⟩ = some .nilFunc := hb.reads (by go_simp)
         have n1 : w1.cell? ⟨w.heap.size + 1, 1, none⟩ = some .nilFunc := hb.reads (by go_simp)
         have n2 : w1.cell? ⟨w.heap.size + 1, 2, none⟩ = some .nilFunc := hb.reads (by go_simp)
         have f0 : w1.frozen? ⟨w.heap.size + 1, 0, none⟩ = false := hb.free (v := .nilFunc) (by go_simp) (by go_simp)
         have f1 : w1.frozen? ⟨w.heap.size + 1, 1, none⟩ = false := hb.free (v := .nilFunc) (by go_simp) (by go_simp)
         have f2 : w1.frozen? ⟨w.heap.size + 1, 2, none⟩ = false := hb.free (v := .nilFunc) (by go_simp) (by go_simp)
        )
      | (go_at_call 162; refine (kAll2 _).mono ?_; rintro e w1 ⟨b, rfl, hb, g1, g2⟩
         have s0 : w1.cell? ⟨w.heap.size, 0, none⟩ = some (.int .u8 2) := hb.reads (by go_simp)
         have s1 : w1.cell? ⟨w.heap.size, 1, none⟩ = some (.int .u64 A) := hb.reads (by go_simp)
         have s2 : w1.cell? ⟨w.heap.size, 2, none⟩ = some (.int .u64 B) := hb.reads (by go_simp)
        ))
  all_goals
    go_wp2_with fail
    refine (bFill 2 A B now cap hA hB hn hc _).mono ?_
    rintro e w2 ⟨rfl, hb2⟩
    go_wp2
    go_ret
    exact ⟨rfl, by repeat (first | exact Ext.refl _ | assumption | apply Ext.drew | apply Ext.alloc | (refine Ext.setCell ?_ (by simp <;> omega) _) | refine Ext.trans ?_ (by assumption))⟩

set_option maxRecDepth 20000 in
theorem kFill3 (A B now cap : Int) (hA : U A) (hB : U B) (hn : U now) (hc : U cap) (w : World) :
    Calls Tryz.prog 130 #[.agg #[.int .u8 3, .int .u64 A, .int .u64 B], .int .u64 now, .int .u64 cap] w fun e w' =>
      e = .returned (.int .u64 (fil 3 A B now cap)) ∧ Ext w w' := by
  go_enter Tryz.func130, Tryz.ntmps130
  go_wp2
  go_region_held3 (fun w' => w'.cell? ⟨w.heap.size, 0, none⟩ = some (.int .u8 3) ∧ w'.cell? ⟨w.heap.size, 1, none⟩ = some (.int .u64 A) ∧ w'.cell? ⟨w.heap.size, 2, none⟩ = some (.int .u64 B))
    (first
      | go_keep
      | (go_split_ands
         refine ⟨hb.reads ?_, hb.reads ?_, hb.reads ?_⟩ <;> assumption)
      | (refine ⟨?_, ?_, ?_⟩ <;> (go_simp; done)))
      (first
      | (go_at_call 162; refine (kAll3 _).mono ?_; rintro e w1 ⟨b, rfl, hb, g1, g2⟩
         have s0 : w1.cell? ⟨w.heap.size, 0, none⟩ = some (.int .u8 3) := hb.reads (by go_simp)
         have s1 : w1.cell? ⟨w.heap.size, 1, none⟩ = some (.int .u64 A) := hb.reads (by go_simp)
         have s2 : w1.cell? ⟨w.heap.size, 2, none⟩ = some (.int .u64 B) := hb.reads (by go_simp)
         have hb0 : Ext ((w.alloc (.cells #[.int .u8 3, .int .u64 A, .int .u64 B] 194)).alloc (.cells #[.nilFunc, .nilFunc, .nilFunc] 261)).drew w1 := hb
         have n0 : w1.cell? ⟨w.heap.size + 1, 0, none⟩ = some .nilFunc := hb.reads (by go_simp)
         have n1 : w1.cell? ⟨w.heap.size + 1, 1, none⟩ = some .nilFunc := hb.reads (by go_simp)
         have n2 : w1.cell? ⟨w.heap.size + 1, 2, none⟩ = some .nilFunc := hb.reads (by go_simp)
         have f0 : w1.frozen? ⟨w.heap.size + 1, 0, none⟩ = false := hb.free (v := .nilFunc) (by go_simp) (by go_simp)
         have f1 : w1.frozen? ⟨w.heap.size + 1, 1, none⟩ = false := hb.free (v := .nilFunc) (by go_simp) (by go_simp)
         have f2 : w1.frozen? ⟨w.heap.size + 1, 2, none⟩ = false := hb.free (v := .nilFunc) (by go_simp) (by go_simp)
        )
      | (go_at_call 162; refine (kAll3 _).mono ?_; rintro e w1 ⟨b, rfl, hb, g1, g2⟩
         have s0 : w1.cell? ⟨w.heap.size, 0, none⟩ = some (.int .u8 3) := hb.reads (by go_simp)
         have s1 : w1.cell? ⟨w.heap.size, 1, none⟩ = some (.int .u64 A) := hb.reads (by go_simp)
         have s2 : w1.cell? ⟨w.heap.size, 2, none⟩ = some (.int .u64 B) := hb.reads (by go_simp)
        ))
  all_goals
    go_wp2_with fail
    refine (lFill' 3 A B now cap hA hB hn hc _).mono ?_
    rintro e w2 ⟨rfl, hb2⟩
    go_wp2
    go_ret
    exact ⟨rfl, by repeat (first | exact Ext.refl _ | assumption | apply Ext.drew | apply Ext.alloc | (refine Ext.setCell ?_ (by simp <;> omega) _) | refine Ext.trans ?_ (by assumption))⟩

set_option maxRecDepth 20000 in
theorem kFill0 (k : Int) (h1 : k ≠ 1) (h2 : k ≠ 2) (h3 : k ≠ 3) (A B now cap : Int) (hA : U A) (hB : U B) (hn : U now) (hc : U cap) (w : World) :
    Calls Tryz.prog 130 #[.agg #[.int .u8 k, .int .u64 A, .int .u64 B], .int .u64 now, .int .u64 cap] w fun e w' =>
      e = .returned (.int .u64 0) ∧ Ext w w' := by
  go_enter Tryz.func130, Tryz.ntmps130
  go_wp2
  go_region_held3 (fun w' => w'.cell? ⟨w.heap.size, 0, none⟩ = some (.int .u8 k) ∧ w'.cell? ⟨w.heap.size, 1, none⟩ = some (.int .u64 A) ∧ w'.cell? ⟨w.heap.size, 2, none⟩ = some (.int .u64 B))
    (first
      | go_keep
      | (go_split_ands
         refine ⟨hb.reads ?_, hb.reads ?_, hb.reads ?_⟩ <;> assumption)
      | (refine ⟨?_, ?_, ?_⟩ <;> (go_simp; done)))
      (first
      | (go_at_call 162; refine (kAll0 k h1 h2 h3 _).mono ?_; rintro e w1 ⟨b, rfl, hb, g1, g2⟩
         have s0 : w1.cell? ⟨w.heap.size, 0, none⟩ = some (.int .u8 k) := hb.reads (by go_simp)
         have s1 : w1.cell? ⟨w.heap.size, 1, none⟩ = some (.int .u64 A) := hb.reads (by go_simp)
         have s2 : w1.cell? ⟨w.heap.size, 2, none⟩ = some (.int .u64 B) := hb.reads (by go_simp)
         have hb0 : Ext ((w.alloc (.cells #[.int .u8 k, .int .u64 A, .int .u64 B] 194)).alloc (.cells #[.nilFunc, .nilFunc, .nilFunc] 261)).drew w1 := hb
         have n0 : w1.cell? ⟨w.heap.size + 1, 0, none⟩ = some .nilFunc := hb.reads (by go_simp)
         have n1 : w1.cell? ⟨w.heap.size + 1, 1, none⟩ = some .nilFunc := hb.reads (by go_simp)
         have n2 : w1.cell? ⟨w.heap.size + 1, 2, none⟩ = some .nilFunc := hb.reads (by go_simp)
         have f0 : w1.frozen? ⟨w.heap.size + 1, 0, none⟩ = false := hb.free (v := .nilFunc) (by go_simp) (by go_simp)
         have f1 : w1.frozen? ⟨w.heap.size + 1, 1, none⟩ = false := hb.free (v := .nilFunc) (by go_simp) (by go_simp)
         have f2 : w1.frozen? ⟨w.heap.size + 1, 2, none⟩ = false := hb.free (v := .nilFunc) (by go_simp) (by go_simp)
        )
      | (go_at_call 162; refine (kAll0 k h1 h2 h3 _).mono ?_; rintro e w1 ⟨b, rfl, hb, g1, g2⟩
         have s0 : w1.cell? ⟨w.heap.size, 0, none⟩ = some (.int .u8 k) := hb.reads (by go_simp)
         have s1 : w1.cell? ⟨w.heap.size, 1, none⟩ = some (.int .u64 A) := hb.reads (by go_simp)
         have s2 : w1.cell? ⟨w.heap.size, 2, none⟩ = some (.int .u64 B) := hb.reads (by go_simp)
        ))
  all_goals
    go_wp2
    go_ret
    exact ⟨rfl, by repeat (first | exact Ext.refl _ | assumption | apply Ext.drew | apply Ext.alloc | (refine Ext.setCell ?_ (by simp <;> omega) _) | refine Ext.trans ?_ (by assumption))⟩

end Go.Proofs.YtdgcgpapcbjfhaaGreatDoor

/- Contracts of the layer kernel: Decide. -/
namespace Go.Proofs.YtdgcgpapcbjfhaaGreatDoor
open Go.RowKit

attribute [local go_sem] ite_min ite_max

set_option maxRecDepth 20000 in
set_option maxHeartbeats 400000 in
theorem kDecide1 (A B now cap v : Int) (hA : U A) (hB : U B) (hn : U now) (hc : U cap) (hv : U v) (w : World) :
    Calls Tryz.prog 128 #[.agg #[.int .u8 1, .int .u64 A, .int .u64 B], .int .u64 now, .int .u64 cap, .int .u64 v] w fun e w' =>
      e = .returned (.tuple #[.agg #[.int .u8 (gK 1 A B now cap v), .int .u64 (gA A B now cap v), .int .u64 (gB A B now cap v)], .bool (gok A B now cap v)]) ∧ Ext w w' := by
  go_enter Tryz.func128, Tryz.ntmps128
  go_wp2
  go_cut [10, 11] from 12 (fun s10 s11 wx => ∃ kb, s10 = .pointer (some ⟨kb, 0, none⟩) ∧ s11 = .bool true ∧ Ext w wx ∧ wx.cell? ⟨kb, 0, none⟩ = some (.func (.func 197) #[] #[]) ∧ wx.cell? ⟨kb, 1, none⟩ = some (.func (.func 198) #[] #[]) ∧ wx.cell? ⟨kb, 2, none⟩ = some (.func (.func 199) #[] #[]) ∧ wx.cell? ⟨w.heap.size, 0, none⟩ = some (.int .u8 1) ∧ wx.cell? ⟨w.heap.size, 1, none⟩ = some (.int .u64 A) ∧ wx.cell? ⟨w.heap.size, 2, none⟩ = some (.int .u64 B) ∧ wx.cell? ⟨w.heap.size + 1, 0, none⟩ = some (.int .u8 0) ∧ wx.cell? ⟨w.heap.size + 1, 1, none⟩ = some (.int .u64 0) ∧ wx.cell? ⟨w.heap.size + 1, 2, none⟩ = some (.int .u64 0) ∧ wx.frozen? ⟨w.heap.size + 1, 0, none⟩ = false ∧ wx.frozen? ⟨w.heap.size + 1, 1, none⟩ = false ∧ wx.frozen? ⟨w.heap.size + 1, 2, none⟩ = false)
  case first =>
    go_region_held3 (fun w' => w'.cell? ⟨w.heap.size, 0, none⟩ = some (.int .u8 1) ∧ w'.cell? ⟨w.heap.size, 1, none⟩ = some (.int .u64 A) ∧ w'.cell? ⟨w.heap.size, 2, none⟩ = some (.int .u64 B))
      (first
        | go_keep
        | (go_split_ands
           refine ⟨hb.reads ?_, hb.reads ?_, hb.reads ?_⟩ <;> assumption)
        | (refine ⟨?_, ?_, ?_⟩ <;> (go_simp; done)))
        (first
        | (go_at_call 162; refine (kAll1 _).mono ?_; rintro e w1 ⟨b, rfl, hb, g1, g2⟩
           have s0 : w1.cell? ⟨w.heap.size, 0, none⟩ = some (.int .u8 1) := hb.reads (by go_simp)
           have s1 : w1.cell? ⟨w.heap.size, 1, none⟩ = some (.int .u64 A) := hb.reads (by go_simp)
           have s2 : w1.cell? ⟨w.heap.size, 2, none⟩ = some (.int .u64 B) := hb.reads (by go_simp)
           have c0 : w1.cell? ⟨w.heap.size + 1, 0, none⟩ = some (.int .u8 0) := hb.reads (by go_simp)
           have c1 : w1.cell? ⟨w.heap.size + 1, 1, none⟩ = some (.int .u64 0) := hb.reads (by go_simp)
           have c2 : w1.cell? ⟨w.heap.size + 1, 2, none⟩ = some (.int .u64 0) := hb.reads (by go_simp)
           have f0 : w1.frozen? ⟨w.heap.size + 1, 0, none⟩ = false := hb.free (v := .int .u8 0) (by go_simp) (by go_simp)
           have f1 : w1.frozen? ⟨w.heap.size + 1, 1, none⟩ = false := hb.free (v := .int .u64 0) (by go_simp) (by go_simp)
           have f2 : w1.frozen? ⟨w.heap.size + 1, 2, none⟩ = false := hb.free (v := .int .u64 0) (by go_simp) (by go_simp)
           have z : w.heap.size + 1 < w1.heap.size := by have := hb.size; simp at this; omega
           have hb0 : Ext (((w.alloc (.cells #[.int .u8 1, .int .u64 A, .int .u64 B] 194)).alloc (.cells #[.int .u8 0, .int .u64 0, .int .u64 0] 194)).alloc (.cells #[.nilFunc, .nilFunc, .nilFunc] 261)).drew w1 := hb
           have n0 : w1.cell? ⟨w.heap.size + 2, 0, none⟩ = some .nilFunc := hb.reads (by go_simp)
           have n1 : w1.cell? ⟨w.heap.size + 2, 1, none⟩ = some .nilFunc := hb.reads (by go_simp)
           have n2 : w1.cell? ⟨w.heap.size + 2, 2, none⟩ = some .nilFunc := hb.reads (by go_simp)
           have fn0 : w1.frozen? ⟨w.heap.size + 2, 0, none⟩ = false := hb.free (v := .nilFunc) (by go_simp) (by go_simp)
           have fn1 : w1.frozen? ⟨w.heap.size + 2, 1, none⟩ = false := hb.free (v := .nilFunc) (by go_simp) (by go_simp)
           have fn2 : w1.frozen? ⟨w.heap.size + 2, 2, none⟩ = false := hb.free (v := .nilFunc) (by go_simp) (by go_simp)
          )
        | (go_at_call 162; refine (kAll1 _).mono ?_; rintro e w1 ⟨b, rfl, hb, g1, g2⟩
           have s0 : w1.cell? ⟨w.heap.size, 0, none⟩ = some (.int .u8 1) := hb.reads (by go_simp)
           have s1 : w1.cell? ⟨w.heap.size, 1, none⟩ = some (.int .u64 A) := hb.reads (by go_simp)
           have s2 : w1.cell? ⟨w.heap.size, 2, none⟩ = some (.int .u64 B) := hb.reads (by go_simp)
           have c0 : w1.cell? ⟨w.heap.size + 1, 0, none⟩ = some (.int .u8 0) := hb.reads (by go_simp)
           have c1 : w1.cell? ⟨w.heap.size + 1, 1, none⟩ = some (.int .u64 0) := hb.reads (by go_simp)
           have c2 : w1.cell? ⟨w.heap.size + 1, 2, none⟩ = some (.int .u64 0) := hb.reads (by go_simp)
           have f0 : w1.frozen? ⟨w.heap.size + 1, 0, none⟩ = false := hb.free (v := .int .u8 0) (by go_simp) (by go_simp)
           have f1 : w1.frozen? ⟨w.heap.size + 1, 1, none⟩ = false := hb.free (v := .int .u64 0) (by go_simp) (by go_simp)
           have f2 : w1.frozen? ⟨w.heap.size + 1, 2, none⟩ = false := hb.free (v := .int .u64 0) (by go_simp) (by go_simp)
           have z : w.heap.size + 1 < w1.heap.size := by have := hb.size; simp at this; omega
          ))
    all_goals
      go_wp2_with fail
      go_meet
      refine ⟨_, rfl, rfl, by repeat (first | exact Ext.refl _ | assumption | apply Ext.drew | apply Ext.alloc | (refine Ext.setCell ?_ (by simp <;> omega) _) | refine Ext.trans ?_ (by assumption)), ?_⟩
      go_split_ands
      refine ⟨?_, ?_, ?_, ?_, ?_, ?_, ?_, ?_, ?_, ?_, ?_, ?_⟩ <;> go_simp
  case rest =>
    obtain ⟨kb, rfl, rfl, hb, k0, k1, k2, s0, s1, s2, c0, c1, c2, f0, f1, f2⟩ := hcut
    go_wp2_with fail
    refine (gDecide 1 A B now cap v hA hB hn hc hv _).mono ?_
    rintro e w2 ⟨rfl, hb2⟩
    have c0' := hb2.reads c0
    have c1' := hb2.reads c1
    have c2' := hb2.reads c2
    have f0' := hb2.free c0 f0
    have f1' := hb2.free c1 f1
    have f2' := hb2.free c2 f2
    go_wp2
    exact bodyPost_ret (v := .tuple #[.agg #[.int .u8 (gK 1 A B now cap v), .int .u64 (gA A B now cap v), .int .u64 (gB A B now cap v)], .bool (gok A B now cap v)]) (by simp [results, Tryz.results128, go_sem, c0', c1', c2']) rfl ⟨rfl, by repeat (first | exact Ext.refl _ | assumption | apply Ext.drew | apply Ext.alloc | (refine Ext.setCell ?_ (by simp <;> omega) _) | refine Ext.trans ?_ (by assumption))⟩

set_option maxRecDepth 20000 in
set_option maxHeartbeats 400000 in
theorem kDecide2 (A B now cap v : Int) (hA : U A) (hB : U B) (hn : U now) (hc : U cap) (hv : U v) (w : World) :
    Calls Tryz.prog 128 #[.agg #[.int .u8 2, .int .u64 A, .int .u64 B], .int .u64 now, .int .u64 cap, .int .u64 v] w fun e w' =>
      e = .returned (.tuple #[.agg #[.int .u8 (bK 2 A B now cap v), .int .u64 (bA A B now cap v), .int .u64 (bB A B now cap v)], .bool (bok A B now cap v)]) ∧ Ext w w' := by
  go_enter Tryz.func128, Tryz.ntmps128
  go_wp2
  go_cut [10, 11] from 12 (fun s10 s11 wx => ∃ kb, s10 = .pointer (some ⟨kb, 0, none⟩) ∧ s11 = .bool true ∧ Ext w wx ∧ wx.cell? ⟨kb, 0, none⟩ = some (.func (.func 200) #[] #[]) ∧ wx.cell? ⟨kb, 1, none⟩ = some (.func (.func 201) #[] #[]) ∧ wx.cell? ⟨kb, 2, none⟩ = some (.func (.func 202) #[] #[]) ∧ wx.cell? ⟨w.heap.size, 0, none⟩ = some (.int .u8 2) ∧ wx.cell? ⟨w.heap.size, 1, none⟩ = some (.int .u64 A) ∧ wx.cell? ⟨w.heap.size, 2, none⟩ = some (.int .u64 B) ∧ wx.cell? ⟨w.heap.size + 1, 0, none⟩ = some (.int .u8 0) ∧ wx.cell? ⟨w.heap.size + 1, 1, none⟩ = some (.int .u64 0) ∧ wx.cell? ⟨w.heap.size + 1, 2, none⟩ = some (.int .u64 0) ∧ wx.frozen? ⟨w.heap.size + 1, 0, none⟩ = false ∧ wx.frozen? ⟨w.heap.size + 1, 1, none⟩ = false ∧ wx.frozen? ⟨w.heap.size + 1, 2, none⟩ = false)
  case first =>
    go_region_held3 (fun w' => w'.cell? ⟨w.heap.size, 0, none⟩ = some (.int .u8 2) ∧ w'.cell? ⟨w.heap.size, 1, none⟩ = some (.int .u64 A) ∧ w'.cell? ⟨w.heap.size, 2, none⟩ = some (.int .u64 B))
      (first
        | go_keep
        | (go_split_ands
           refine ⟨hb.reads ?_, hb.reads ?_, hb.reads ?_⟩ <;> assumption)
        | (refine ⟨?_, ?_, ?_⟩ <;> (go_simp; done)))
        (first
        | (go_at_call 162; refine (kAll2 _).mono ?_; rintro e w1 ⟨b, rfl, hb, g1, g2⟩
           have s0 : w1.cell? ⟨w.heap.size, 0, none⟩ = some (.int .u8 2) := hb.reads (by go_simp)
           have s1 : w1.cell? ⟨w.heap.size, 1, none⟩ = some (.int .u64 A) := hb.reads (by go_simp)
           have s2 : w1.cell? ⟨w.heap.size, 2, none⟩ = some (.int .u64 B) := hb.reads (by go_simp)
           have c0 : w1.cell? ⟨w.heap.size + 1, 0, none⟩ = some (.int .u8 0) := hb.reads (by go_simp)
           have c1 : w1.cell? ⟨w.heap.size + 1, 1, none⟩ = some (.int .u64 0) := hb.reads (by go_simp)
           have c2 : w1.cell? ⟨w.heap.size + 1, 2, none⟩ = some (.int .u64 0) := hb.reads (by go_simp)
           have f0 : w1.frozen? ⟨w.heap.size + 1, 0, none⟩ = false := hb.free (v := .int .u8 0) (by go_simp) (by go_simp)
           have f1 : w1.frozen? ⟨w.heap.size + 1, 1, none⟩ = false := hb.free (v := .int .u64 0) (by go_simp) (by go_simp)
           have f2 : w1.frozen? ⟨w.heap.size + 1, 2, none⟩ = false := hb.free (v := .int .u64 0) (by go_simp) (by go_simp)
           have z : w.heap.size + 1 < w1.heap.size := by have := hb.size; simp at this; omega
           have hb0 : Ext (((w.alloc (.cells #[.int .u8 2, .int .u64 A, .int .u64 B] 194)).alloc (.cells #[.int .u8 0, .int .u64 0, .int .u64 0] 194)).alloc (.cells #[.nilFunc, .nilFunc, .nilFunc] 261)).drew w1 := hb
           have n0 : w1.cell? ⟨w.heap.size + 2, 0, none⟩ = some .nilFunc := hb.reads (by go_simp)
           have n1 : w1.cell? ⟨w.heap.size + 2, 1, none⟩ = some .nilFunc := hb.reads (by go_simp)
           have n2 : w1.cell? ⟨w.heap.size + 2, 2, none⟩ = some .nilFunc := hb.reads (by go_simp)
           have fn0 : w1.frozen? ⟨w.heap.size + 2, 0, none⟩ = false := hb.free (v := .nilFunc) (by go_simp) (by go_simp)
           have fn1 : w1.frozen? ⟨w.heap.size + 2, 1, none⟩ = false := hb.free (v := .nilFunc) (by go_simp) (by go_simp)
           have fn2 : w1.frozen? ⟨w.heap.size + 2, 2, none⟩ = false := hb.free (v := .nilFunc) (by go_simp) (by go_simp)
          )
        | (go_at_call 162; refine (kAll2 _).mono ?_; rintro e w1 ⟨b, rfl, hb, g1, g2⟩
           have s0 : w1.cell? ⟨w.heap.size, 0, none⟩ = some (.int .u8 2) := hb.reads (by go_simp)
           have s1 : w1.cell? ⟨w.heap.size, 1, none⟩ = some (.int .u64 A) := hb.reads (by go_simp)
           have s2 : w1.cell? ⟨w.heap.size, 2, none⟩ = some (.int .u64 B) := hb.reads (by go_simp)
           have c0 : w1.cell? ⟨w.heap.size + 1, 0, none⟩ = some (.int .u8 0) := hb.reads (by go_simp)
           have c1 : w1.cell? ⟨w.heap.size + 1, 1, none⟩ = some (.int .u64 0) := hb.reads (by go_simp)
           have c2 : w1.cell? ⟨w.heap.size + 1, 2, none⟩ = some (.int .u64 0) := hb.reads (by go_simp)
           have f0 : w1.frozen? ⟨w.heap.size + 1, 0, none⟩ = false := hb.free (v := .int .u8 0) (by go_simp) (by go_simp)
           have f1 : w1.frozen? ⟨w.heap.size + 1, 1, none⟩ = false := hb.free (v := .int .u64 0) (by go_simp) (by go_simp)
           have f2 : w1.frozen? ⟨w.heap.size + 1, 2, none⟩ = false := hb.free (v := .int .u64 0) (by go_simp) (by go_simp)
           have z : w.heap.size + 1 < w1.heap.size := by have := hb.size; simp at this; omega
          ))
    all_goals
      go_wp2_with fail
      go_meet
      refine ⟨_, rfl, rfl, by repeat (first | exact Ext.refl _ | assumption | apply Ext.drew | apply Ext.alloc | (refine Ext.setCell ?_ (by simp <;> omega) _) | refine Ext.trans ?_ (by assumption)), ?_⟩
      go_split_ands
      refine ⟨?_, ?_, ?_, ?_, ?_, ?_, ?_, ?_, ?_, ?_, ?_, ?_⟩ <;> go_simp
  case rest =>
    obtain ⟨kb, rfl, rfl, hb, k0, k1, k2, s0, s1, s2, c0, c1, c2, f0, f1, f2⟩ := hcut
    go_wp2_with fail
    refine (bDecide 2 A B now cap v hA hB hn hc hv _).mono ?_
    rintro e w2 ⟨rfl, hb2⟩
    have c0' := hb2.reads c0
    have c1' := hb2.reads c1
    have c2' := hb2.reads c2
    have f0' := hb2.free c0 f0
    have f1' := hb2.free c1 f1
    have f2' := hb2.free c2 f2
    go_wp2
    exact bodyPost_ret (v := .tuple #[.agg #[.int .u8 (bK 2 A B now cap v), .int .u64 (bA A B now cap v), .int .u64 (bB A B now cap v)], .bool (bok A B now cap v)]) (by simp [results, Tryz.results128, go_sem, c0', c1', c2']) rfl ⟨rfl, by repeat (first | exact Ext.refl _ | assumption | apply Ext.drew | apply Ext.alloc | (refine Ext.setCell ?_ (by simp <;> omega) _) | refine Ext.trans ?_ (by assumption))⟩

set_option maxRecDepth 20000 in
set_option maxHeartbeats 400000 in
theorem kDecide3 (A B now cap v : Int) (hA : U A) (hB : U B) (hn : U now) (hc : U cap) (hv : U v) (w : World) :
    Calls Tryz.prog 128 #[.agg #[.int .u8 3, .int .u64 A, .int .u64 B], .int .u64 now, .int .u64 cap, .int .u64 v] w fun e w' =>
      e = .returned (.tuple #[.agg #[.int .u8 (lK 3 A B now cap v), .int .u64 (lA A B now cap v), .int .u64 (lB A B now cap v)], .bool (lok A B now cap v)]) ∧ Ext w w' := by
  go_enter Tryz.func128, Tryz.ntmps128
  go_wp2
  go_cut [10, 11] from 12 (fun s10 s11 wx => ∃ kb, s10 = .pointer (some ⟨kb, 0, none⟩) ∧ s11 = .bool true ∧ Ext w wx ∧ wx.cell? ⟨kb, 0, none⟩ = some (.func (.func 203) #[] #[]) ∧ wx.cell? ⟨kb, 1, none⟩ = some (.func (.func 204) #[] #[]) ∧ wx.cell? ⟨kb, 2, none⟩ = some (.func (.func 205) #[] #[]) ∧ wx.cell? ⟨w.heap.size, 0, none⟩ = some (.int .u8 3) ∧ wx.cell? ⟨w.heap.size, 1, none⟩ = some (.int .u64 A) ∧ wx.cell? ⟨w.heap.size, 2, none⟩ = some (.int .u64 B) ∧ wx.cell? ⟨w.heap.size + 1, 0, none⟩ = some (.int .u8 0) ∧ wx.cell? ⟨w.heap.size + 1, 1, none⟩ = some (.int .u64 0) ∧ wx.cell? ⟨w.heap.size + 1, 2, none⟩ = some (.int .u64 0) ∧ wx.frozen? ⟨w.heap.size + 1, 0, none⟩ = false ∧ wx.frozen? ⟨w.heap.size + 1, 1, none⟩ = false ∧ wx.frozen? ⟨w.heap.size + 1, 2, none⟩ = false)
  case first =>
    go_region_held3 (fun w' => w'.cell? ⟨w.heap.size, 0, none⟩ = some (.int .u8 3) ∧ w'.cell? ⟨w.heap.size, 1, none⟩ = some (.int .u64 A) ∧ w'.cell? ⟨w.heap.size, 2, none⟩ = some (.int .u64 B))
      (first
        | go_keep
        | (go_split_ands
           refine ⟨hb.reads ?_, hb.reads ?_, hb.reads ?_⟩ <;> assumption)
        | (refine ⟨?_, ?_, ?_⟩ <;> (go_simp; done)))
        (first
        | (go_at_call 162; refine (kAll3 _).mono ?_; rintro e w1 ⟨b, rfl, hb, g1, g2⟩
           have s0 : w1.cell? ⟨w.heap.size, 0, none⟩ = some (.int .u8 3) := hb.reads (by go_simp)
           have s1 : w1.cell? ⟨w.heap.size, 1, none⟩ = some (.int .u64 A) := hb.reads (by go_simp)
           have s2 : w1.cell? ⟨w.heap.size, 2, none⟩ = some (.int .u64 B) := hb.reads (by go_simp)
           have c0 : w1.cell? ⟨w.heap.size + 1, 0, none⟩ = some (.int .u8 0) := hb.reads (by go_simp)
           have c1 : w1.cell? ⟨w.heap.size + 1, 1, none⟩ = some (.int .u64 0) := hb.reads (by go_simp)
           have c2 : w1.cell? ⟨w.heap.size + 1, 2, none⟩ = some (.int .u64 0) := hb.reads (by go_simp)
           have f0 : w1.frozen? ⟨w.heap.size + 1, 0, none⟩ = false := hb.free (v := .int .u8 0) (by go_simp) (by go_simp)
           have f1 : w1.frozen? ⟨w.heap.size + 1, 1, none⟩ = false := hb.free (v := .int .u64 0) (by go_simp) (by go_simp)
           have f2 : w1.frozen? ⟨w.heap.size + 1, 2, none⟩ = false := hb.free (v := .int .u64 0) (by go_simp) (by go_simp)
           have z : w.heap.size + 1 < w1.heap.size := by have := hb.size; simp at this; omega
           have hb0 : Ext (((w.alloc (.cells #[.int .u8 3, .int .u64 A, .int .u64 B] 194)).alloc (.cells #[.int .u8 0, .int .u64 0, .int .u64 0] 194)).alloc (.cells #[.nilFunc, .nilFunc, .nilFunc] 261)).drew w1 := hb
           have n0 : w1.cell? ⟨w.heap.size + 2, 0, none⟩ = some .nilFunc := hb.reads (by go_simp)
           have n1 : w1.cell? ⟨w.heap.size + 2, 1, none⟩ = some .nilFunc := hb.reads (by go_simp)
           have n2 : w1.cell? ⟨w.heap.size + 2, 2, none⟩ = some .nilFunc := hb.reads (by go_simp)
           have fn0 : w1.frozen? ⟨w.heap.size + 2, 0, none⟩ = false := hb.free (v := .nilFunc) (by go_simp) (by go_simp)
           have fn1 : w1.frozen? ⟨w.heap.size + 2, 1, none⟩ = false := hb.free (v := .nilFunc) (by go_simp) (by go_simp)
           have fn2 : w1.frozen? ⟨w.heap.size + 2, 2, none⟩ = false := hb.free (v := .nilFunc) (by go_simp) (by go_simp)
          )
        | (go_at_call 162; refine (kAll3 _).mono ?_; rintro e w1 ⟨b, rfl, hb, g1, g2⟩
           have s0 : w1.cell? ⟨w.heap.size, 0, none⟩ = some (.int .u8 3) := hb.reads (by go_simp)
           have s1 : w1.cell? ⟨w.heap.size, 1, none⟩ = some (.int .u64 A) := hb.reads (by go_simp)
           have s2 : w1.cell? ⟨w.heap.size, 2, none⟩ = some (.int .u64 B) := hb.reads (by go_simp)
           have c0 : w1.cell? ⟨w.heap.size + 1, 0, none⟩ = some (.int .u8 0) := hb.reads (by go_simp)
           have c1 : w1.cell? ⟨w.heap.size + 1, 1, none⟩ = some (.int .u64 0) := hb.reads (by go_simp)
           have c2 : w1.cell? ⟨w.heap.size + 1, 2, none⟩ = some (.int .u64 0) := hb.reads (by go_simp)
           have f0 : w1.frozen? ⟨w.heap.size + 1, 0, none⟩ = false := hb.free (v := .int .u8 0) (by go_simp) (by go_simp)
           have f1 : w1.frozen? ⟨w.heap.size + 1, 1, none⟩ = false := hb.free (v := .int .u64 0) (by go_simp) (by go_simp)
           have f2 : w1.frozen? ⟨w.heap.size + 1, 2, none⟩ = false := hb.free (v := .int .u64 0) (by go_simp) (by go_simp)
           have z : w.heap.size + 1 < w1.heap.size := by have := hb.size; simp at this; omega
          ))
    all_goals
      go_wp2_with fail
      go_meet
      refine ⟨_, rfl, rfl, by repeat (first | exact Ext.refl _ | assumption | apply Ext.drew | apply Ext.alloc | (refine Ext.setCell ?_ (by simp <;> omega) _) | refine Ext.trans ?_ (by assumption)), ?_⟩
      go_split_ands
      refine ⟨?_, ?_, ?_, ?_, ?_, ?_, ?_, ?_, ?_, ?_, ?_, ?_⟩ <;> go_simp
  case rest =>
    obtain ⟨kb, rfl, rfl, hb, k0, k1, k2, s0, s1, s2, c0, c1, c2, f0, f1, f2⟩ := hcut
    go_wp2_with fail
    refine (lDecide 3 A B now cap v hA hB hn hc hv _).mono ?_
    rintro e w2 ⟨rfl, hb2⟩
    have c0' := hb2.reads c0
    have c1' := hb2.reads c1
    have c2' := hb2.reads c2
    have f0' := hb2.free c0 f0
    have f1' := hb2.free c1 f1
    have f2' := hb2.free c2 f2
    go_wp2
    exact bodyPost_ret (v := .tuple #[.agg #[.int .u8 (lK 3 A B now cap v), .int .u64 (lA A B now cap v), .int .u64 (lB A B now cap v)], .bool (lok A B now cap v)]) (by simp [results, Tryz.results128, go_sem, c0', c1', c2']) rfl ⟨rfl, by repeat (first | exact Ext.refl _ | assumption | apply Ext.drew | apply Ext.alloc | (refine Ext.setCell ?_ (by simp <;> omega) _) | refine Ext.trans ?_ (by assumption))⟩

set_option maxRecDepth 20000 in
set_option maxHeartbeats 400000 in
theorem kDecide0 (k : Int) (h1 : k ≠ 1) (h2 : k ≠ 2) (h3 : k ≠ 3) (A B now cap v : Int) (hA : U A) (hB : U B) (hn : U now) (hc : U cap) (hv : U v) (w : World) :
    Calls Tryz.prog 128 #[.agg #[.int .u8 k, .int .u64 A, .int .u64 B], .int .u64 now, .int .u64 cap, .int .u64 v] w fun e w' =>
      e = .returned (.tuple #[.agg #[.int .u8 k, .int .u64 A, .int .u64 B], .bool false]) ∧ Ext w w' := by
  go_enter Tryz.func128, Tryz.ntmps128
  go_wp2
  go_cut [10, 11] from 12 (fun s10 s11 wx => ∃ kb, s10 = .pointer (some ⟨kb, 0, none⟩) ∧ s11 = .bool false ∧ Ext w wx ∧ wx.cell? ⟨kb, 0, none⟩ = some (.nilFunc) ∧ wx.cell? ⟨kb, 1, none⟩ = some (.nilFunc) ∧ wx.cell? ⟨kb, 2, none⟩ = some (.nilFunc) ∧ wx.cell? ⟨w.heap.size, 0, none⟩ = some (.int .u8 k) ∧ wx.cell? ⟨w.heap.size, 1, none⟩ = some (.int .u64 A) ∧ wx.cell? ⟨w.heap.size, 2, none⟩ = some (.int .u64 B) ∧ wx.cell? ⟨w.heap.size + 1, 0, none⟩ = some (.int .u8 0) ∧ wx.cell? ⟨w.heap.size + 1, 1, none⟩ = some (.int .u64 0) ∧ wx.cell? ⟨w.heap.size + 1, 2, none⟩ = some (.int .u64 0) ∧ wx.frozen? ⟨w.heap.size + 1, 0, none⟩ = false ∧ wx.frozen? ⟨w.heap.size + 1, 1, none⟩ = false ∧ wx.frozen? ⟨w.heap.size + 1, 2, none⟩ = false)
  case first =>
    go_region_held3 (fun w' => w'.cell? ⟨w.heap.size, 0, none⟩ = some (.int .u8 k) ∧ w'.cell? ⟨w.heap.size, 1, none⟩ = some (.int .u64 A) ∧ w'.cell? ⟨w.heap.size, 2, none⟩ = some (.int .u64 B))
      (first
        | go_keep
        | (go_split_ands
           refine ⟨hb.reads ?_, hb.reads ?_, hb.reads ?_⟩ <;> assumption)
        | (refine ⟨?_, ?_, ?_⟩ <;> (go_simp; done)))
        (first
        | (go_at_call 162; refine (kAll0 k h1 h2 h3 _).mono ?_; rintro e w1 ⟨b, rfl, hb, g1, g2⟩
           have s0 : w1.cell? ⟨w.heap.size, 0, none⟩ = some (.int .u8 k) := hb.reads (by go_simp)
           have s1 : w1.cell? ⟨w.heap.size, 1, none⟩ = some (.int .u64 A) := hb.reads (by go_simp)
           have s2 : w1.cell? ⟨w.heap.size, 2, none⟩ = some (.int .u64 B) := hb.reads (by go_simp)
           have c0 : w1.cell? ⟨w.heap.size + 1, 0, none⟩ = some (.int .u8 0) := hb.reads (by go_simp)
           have c1 : w1.cell? ⟨w.heap.size + 1, 1, none⟩ = some (.int .u64 0) := hb.reads (by go_simp)
           have c2 : w1.cell? ⟨w.heap.size + 1, 2, none⟩ = some (.int .u64 0) := hb.reads (by go_simp)
           have f0 : w1.frozen? ⟨w.heap.size + 1, 0, none⟩ = false := hb.free (v := .int .u8 0) (by go_simp) (by go_simp)
           have f1 : w1.frozen? ⟨w.heap.size + 1, 1, none⟩ = false := hb.free (v := .int .u64 0) (by go_simp) (by go_simp)
           have f2 : w1.frozen? ⟨w.heap.size + 1, 2, none⟩ = false := hb.free (v := .int .u64 0) (by go_simp) (by go_simp)
           have z : w.heap.size + 1 < w1.heap.size := by have := hb.size; simp at this; omega
           have hb0 : Ext (((w.alloc (.cells #[.int .u8 k, .int .u64 A, .int .u64 B] 194)).alloc (.cells #[.int .u8 0, .int .u64 0, .int .u64 0] 194)).alloc (.cells #[.nilFunc, .nilFunc, .nilFunc] 261)).drew w1 := hb
           have n0 : w1.cell? ⟨w.heap.size + 2, 0, none⟩ = some .nilFunc := hb.reads (by go_simp)
           have n1 : w1.cell? ⟨w.heap.size + 2, 1, none⟩ = some .nilFunc := hb.reads (by go_simp)
           have n2 : w1.cell? ⟨w.heap.size + 2, 2, none⟩ = some .nilFunc := hb.reads (by go_simp)
           have fn0 : w1.frozen? ⟨w.heap.size + 2, 0, none⟩ = false := hb.free (v := .nilFunc) (by go_simp) (by go_simp)
           have fn1 : w1.frozen? ⟨w.heap.size + 2, 1, none⟩ = false := hb.free (v := .nilFunc) (by go_simp) (by go_simp)
           have fn2 : w1.frozen? ⟨w.heap.size + 2, 2, none⟩ = false := hb.free (v := .nilFunc) (by go_simp) (by go_simp)
          )
        | (go_at_call 162; refine (kAll0 k h1 h2 h3 _).mono ?_; rintro e w1 ⟨b, rfl, hb, g1, g2⟩
           have s0 : w1.cell? ⟨w.heap.size, 0, none⟩ = some (.int .u8 k) := hb.reads (by go_simp)
           have s1 : w1.cell? ⟨w.heap.size, 1, none⟩ = some (.int .u64 A) := hb.reads (by go_simp)
           have s2 : w1.cell? ⟨w.heap.size, 2, none⟩ = some (.int .u64 B) := hb.reads (by go_simp)
           have c0 : w1.cell? ⟨w.heap.size + 1, 0, none⟩ = some (.int .u8 0) := hb.reads (by go_simp)
           have c1 : w1.cell? ⟨w.heap.size + 1, 1, none⟩ = some (.int .u64 0) := hb.reads (by go_simp)
           have c2 : w1.cell? ⟨w.heap.size + 1, 2, none⟩ = some (.int .u64 0) := hb.reads (by go_simp)
           have f0 : w1.frozen? ⟨w.heap.size + 1, 0, none⟩ = false := hb.free (v := .int .u8 0) (by go_simp) (by go_simp)
           have f1 : w1.frozen? ⟨w.heap.size + 1, 1, none⟩ = false := hb.free (v := .int .u64 0) (by go_simp) (by go_simp)
           have f2 : w1.frozen? ⟨w.heap.size + 1, 2, none⟩ = false := hb.free (v := .int .u64 0) (by go_simp) (by go_simp)
           have z : w.heap.size + 1 < w1.heap.size := by have := hb.size; simp at this; omega
          ))
    all_goals
      go_wp2_with fail
      go_meet
      refine ⟨_, rfl, rfl, by repeat (first | exact Ext.refl _ | assumption | apply Ext.drew | apply Ext.alloc | (refine Ext.setCell ?_ (by simp <;> omega) _) | refine Ext.trans ?_ (by assumption)), ?_⟩
      go_split_ands
      refine ⟨?_, ?_, ?_, ?_, ?_, ?_, ?_, ?_, ?_, ?_, ?_, ?_⟩ <;> go_simp
  case rest =>
    obtain ⟨kb, rfl, rfl, hb, k0, k1, k2, s0, s1, s2, c0, c1, c2, f0, f1, f2⟩ := hcut
    go_wp2
    exact bodyPost_ret (v := .tuple #[.agg #[.int .u8 k, .int .u64 A, .int .u64 B], .bool false]) (by simp [results, Tryz.results128, go_sem, c0, c1, c2]) rfl ⟨rfl, by repeat (first | exact Ext.refl _ | assumption | apply Ext.drew | apply Ext.alloc | (refine Ext.setCell ?_ (by simp <;> omega) _) | refine Ext.trans ?_ (by assumption))⟩

end Go.Proofs.YtdgcgpapcbjfhaaGreatDoor
