/- The numbers of known. -/
import Derived.Test.YtdgcgpapcbjfhaaGreatDoorJ44TabDel
import Derived.Test.YtdgcgpapcbjfhaaGreatDoorJ09CfgE
import Derived.Test.YtdgcgpapcbjfhaaGreatDoorJ37All
set_option linter.unusedVariables false
set_option linter.unusedSimpArgs false

/- The numbers of known. -/
namespace Go.Proofs.YtdgcgpapcbjfhaaGreatDoor
open Go.RowKit

/-- the text of rules that known has -/
def kText : List UInt8 := [115, 105, 122, 101, 32, 49, 10, 100, 101, 102, 97, 117, 108, 116, 32, 49, 48, 32, 49, 32, 98, 117, 99, 107, 101, 116]
/-- what it asks -/
def kAsk : List UInt8 := [67, 72, 69, 67, 75, 32, 97, 32, 49]
def kR : Rl := ⟨[], 10, 1, 2⟩

theorem kText_cfg : cfg kText = (⟨1, [kR]⟩, 0, 0, 0) := by kernel_rfl
theorem kAsk_E : aE kAsk = 0 := by decide +kernel
theorem kAsk_K : aK kAsk = [97] := by decide +kernel
theorem kAsk_V : aV kAsk = 1 := by decide +kernel
theorem kAdd1 : Adds 4607182418800017408 0 4611686018427387904 0 4607182418800017408 4607182418800017408 := ⟨fun w => by kernel_rfl, fun w => by kernel_rfl⟩
theorem kAdd2 : Adds 4607182418800017408 4607182418800017408 4611686018427387904 4607182418800017408 4607182418800017408 4611686018427387904 := ⟨fun w => by kernel_rfl, fun w => by kernel_rfl⟩

theorem kOf1 : oK 2 = 2 ∧ oA 2 0 10 0 = 10 ∧ oB 2 0 = 0 := by decide +kernel
theorem kOf3 : oK 2 = 2 ∧ oA 2 10 10 0 = 10 ∧ oB 2 10 = 10 := by decide +kernel
theorem kDo1 : dok 2 10 0 0 10 10 = true ∧ dK 2 10 0 0 10 10 = 2 ∧ dA 2 10 0 0 10 10 = 0 ∧ dB 2 10 0 0 10 10 = 0 := by decide +kernel
theorem kFi2 : fil 2 0 0 0 10 = 10 ∧ dok 2 0 0 0 10 10 = false ∧ wD 2 0 0 0 10 10 = 10 := by decide +kernel
theorem kFi3 : fil 2 0 0 10 10 = 0 ∧ dok 2 10 10 10 10 10 = true := by decide +kernel
theorem kMul : umul 1 10 = 10 := by decide +kernel
theorem kR_ok : okR kR := by unfold okR U kR; decide +kernel

def kE : MapEntry := one1 [97] kR 2 0 0 0

/-- the first charge -/
theorem kCh1 (t mb : Nat) (w : World) (hT : TabAt w t 1 0 mb #[] 0) :
    Calls Tryz.prog 94 #[.pointer (some ⟨t, 0, none⟩), .string (strOf [97]), rlV kR, .int .u64 1] w fun e w' => ∃ a es' mk', e = .returned (ansV a) ∧ (a.code = 1 ∧ es' = #[kE] ∧ mk' = 1) ∧ TabAt w' t 1 0 mb es' mk' ∧ But (fun j => j = mb) w w' := by
  have htl : t < w.heap.size := World.block_lt_of_cell? w _ hT.c0
  have hml : mb < w.heap.size := (Array.getElem?_eq_some_iff.1 hT.m).1
  obtain ⟨o1, o2, o3⟩ := kOf1
  obtain ⟨d1, d2, d3, d4⟩ := kDo1
  refine (pCharge t 1 0 mb #[] 0 [97] (by decide) kR kR_ok 1 ⟨by omega, by omega⟩ ⟨by omega, by omega⟩ false 10 10 rfl kMul ⟨#[]⟩ ⟨#[]⟩ 0 0 0 0 0 0 ⟨by omega, by omega⟩ ⟨by omega, by omega⟩ w htl hml (fun _ => by simp)
    2 10 0 o1.symm o2.symm o3.symm (fun h => by cases h) (fun _ => rfl) (says0 t 1 0 mb 0 [97] kR w hT)).mono ?_
  rintro e w' ⟨a, he, hc, hn, hT', hb⟩
  rw [d1] at hc hT'
  rw [d2, d3, d4] at hT'
  exact ⟨a, _, _, he, ⟨hc, rfl, rfl⟩, hT', hb⟩

/-- the second -/
theorem kCh2 (t mb : Nat) (w : World) (hT : TabAt w t 1 0 mb #[kE] 1) :
    Calls Tryz.prog 94 #[.pointer (some ⟨t, 0, none⟩), .string (strOf [97]), rlV kR, .int .u64 1] w fun e w' => ∃ a es' mk', e = .returned (ansV a) ∧ (a.code = 2 ∧ a.nanos = 10 ∧ es' = #[kE] ∧ mk' = 1) ∧ TabAt w' t 1 0 mb es' mk' ∧ But (fun j => j = mb) w w' := by
  have htl : t < w.heap.size := World.block_lt_of_cell? w _ hT.c0
  have hml : mb < w.heap.size := (Array.getElem?_eq_some_iff.1 hT.m).1
  obtain ⟨f1, f2, f3⟩ := kFi2
  refine (pCharge t 1 0 mb #[kE] 1 [97] (by decide) kR kR_ok 1 ⟨by omega, by omega⟩ ⟨by omega, by omega⟩ true 10 10 rfl kMul (strOf [97]) (strOf []) 10 1 2 2 0 0 ⟨by omega, by omega⟩ ⟨by omega, by omega⟩ w htl hml (fun h => by cases h)
    2 0 0 rfl rfl rfl (fun _ => f2) (fun h => by cases h) (saysY t 1 0 mb 1 0 [97] kR kR_ok ⟨by omega, by omega⟩ 2 0 0 ⟨by omega, by omega⟩ ⟨by omega, by omega⟩ (show fil 2 0 0 0 10 ≠ 0 by rw [f1]; decide) w hT)).mono ?_
  rintro e w' ⟨a, he, hc, hn, hT', hb⟩
  rw [f2] at hc hT'
  rw [f3] at hn
  exact ⟨a, _, _, he, ⟨hc, hn, rfl, rfl⟩, hT', hb⟩

/-- the third -/
theorem kCh3 (t mb : Nat) (w : World) (hT : TabAt w t 1 10 mb #[kE] 1) :
    Calls Tryz.prog 94 #[.pointer (some ⟨t, 0, none⟩), .string (strOf [97]), rlV kR, .int .u64 1] w fun e w' => ∃ a es' mk', e = .returned (ansV a) ∧ a.code = 1 ∧ TabAt w' t 1 10 mb es' mk' ∧ But (fun j => j = mb) w w' := by
  have htl : t < w.heap.size := World.block_lt_of_cell? w _ hT.c0
  have hml : mb < w.heap.size := (Array.getElem?_eq_some_iff.1 hT.m).1
  obtain ⟨o1, o2, o3⟩ := kOf3
  obtain ⟨f1, f2⟩ := kFi3
  refine (pCharge t 1 10 mb #[] 1 [97] (by decide) kR kR_ok 1 ⟨by omega, by omega⟩ ⟨by omega, by omega⟩ false 10 10 rfl kMul (strOf [97]) (strOf []) 10 1 2 2 0 0 ⟨by omega, by omega⟩ ⟨by omega, by omega⟩ w htl hml (fun _ => by simp)
    2 10 10 o1.symm o2.symm o3.symm (fun h => by cases h) (fun _ => rfl) (saysG t 1 10 mb 1 0 [97] kR kR_ok ⟨by omega, by omega⟩ 2 0 0 ⟨by omega, by omega⟩ ⟨by omega, by omega⟩ (show fil 2 0 0 10 10 = 0 from f1) w hT)).mono ?_
  rintro e w' ⟨a, he, hc, hn, hT', hb⟩
  rw [f2] at hc
  exact ⟨a, _, _, he, hc, hT', hb⟩

end Go.Proofs.YtdgcgpapcbjfhaaGreatDoor
