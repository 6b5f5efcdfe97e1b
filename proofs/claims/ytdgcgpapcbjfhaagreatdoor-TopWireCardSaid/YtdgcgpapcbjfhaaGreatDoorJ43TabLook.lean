/- A table's slot of a key, where no key is. -/
import Derived.Test.YtdgcgpapcbjfhaaGreatDoorJ33Slots
import Derived.Test.YtdgcgpapcbjfhaaGreatDoorJ41Pr
import Derived.Test.YtdgcgpapcbjfhaaGreatDoorJ42KernelU
import Derived.RegionTactic
import Derived.Deep.RegionHeld3
set_option linter.unusedVariables false
set_option linter.unusedSimpArgs false

/- A table's slots: how full one is, and looking one up. -/
namespace Go.Proofs.YtdgcgpapcbjfhaaGreatDoor
open Go.RowKit

def slotV (k : ByteArray) (r : Rl) (K A B : Int) : Value := .agg #[.string k, .string (strOf r.pre), .int .u64 r.ev, .int .u64 r.bu, .int .u8 (r.kd : Int), .int .u8 K, .int .u64 A, .int .u64 B]

set_option maxHeartbeats 1600000 in
theorem pFillT (k : ByteArray) (r : Rl) (K A Bb ck : Int) (hr : okR r) (hA : U A) (hB : U Bb) (hc : U ck) (w : World) :
    Calls Tryz.prog 159 #[slotV k r K A Bb, .int .u64 ck] w fun e w' => e = .returned (.int .u64 (fil K A Bb ck (r.ev * r.bu))) ∧ Ext w w' := by
  have hCp := fun w => pCap r hr w
  have hKf := fun (hu : U (r.ev * r.bu)) w => kFill K A Bb ck (r.ev * r.bu) hA hB hc hu w
  obtain ⟨hp, hu, hu2, k3, k1, he, hb, hm⟩ := hr
  unfold slotV
  unfold rlV at *
  go_enter Tryz.func159, Tryz.ntmps159
  obtain ⟨P, hP⟩ : ∃ P, w.heap.size = P := ⟨_, rfl⟩
  obtain ⟨W, hW⟩ : ∃ W, w.alloc (.cells #[.string k, .string (strOf r.pre), .int .u64 r.ev, .int .u64 r.bu, .int .u8 (r.kd : Int), .int .u8 K, .int .u64 A, .int .u64 Bb] 196) = W := ⟨_, rfl⟩
  have hx0 : Ext w W := by rw [← hW]; exact (Ext.refl w).alloc _
  have c : W.cell? ⟨P, 0, none⟩ = some (.string k) ∧ W.cell? ⟨P, 1, none⟩ = some (.string (strOf r.pre)) ∧ W.cell? ⟨P, 2, none⟩ = some (.int .u64 r.ev) ∧ W.cell? ⟨P, 3, none⟩ = some (.int .u64 r.bu) ∧ W.cell? ⟨P, 4, none⟩ = some (.int .u8 (r.kd : Int)) ∧ W.cell? ⟨P, 5, none⟩ = some (.int .u8 K) ∧ W.cell? ⟨P, 6, none⟩ = some (.int .u64 A) ∧ W.cell? ⟨P, 7, none⟩ = some (.int .u64 Bb) := by
    subst hW hP; exact ⟨by go_simp, by go_simp, by go_simp, by go_simp, by go_simp, by go_simp, by go_simp, by go_simp⟩
  obtain ⟨c0, c1, c2, c3, c4, c5, c6, c7⟩ := c
  go_wp2
  clear hP hW hp hu hu2 k3 k1 he hb hm
  have l1 : ∀ w', Ext W w' → w'.cell? ⟨P, 1, none⟩ = some (.string (strOf r.pre)) := fun w' h => h.reads c1
  have l2 : ∀ w', Ext W w' → w'.cell? ⟨P, 2, none⟩ = some (.int .u64 r.ev) := fun w' h => h.reads c2
  have l3 : ∀ w', Ext W w' → w'.cell? ⟨P, 3, none⟩ = some (.int .u64 r.bu) := fun w' h => h.reads c3
  have l4 : ∀ w', Ext W w' → w'.cell? ⟨P, 4, none⟩ = some (.int .u8 (r.kd : Int)) := fun w' h => h.reads c4
  have l5 : ∀ w', Ext W w' → w'.cell? ⟨P, 5, none⟩ = some (.int .u8 K) := fun w' h => h.reads c5
  have l6 : ∀ w', Ext W w' → w'.cell? ⟨P, 6, none⟩ = some (.int .u64 A) := fun w' h => h.reads c6
  have l7 : ∀ w', Ext W w' → w'.cell? ⟨P, 7, none⟩ = some (.int .u64 Bb) := fun w' h => h.reads c7
  have hCp' : ∀ w', Ext W w' → Calls Tryz.prog 124 #[.agg #[.string (strOf r.pre), .int .u64 r.ev, .int .u64 r.bu, .int .u8 (r.kd : Int)]] w' fun e w'' => (e = .returned (.int .u64 (r.ev * r.bu)) ∧ Hid (U (r.ev * r.bu))) ∧ Ext W w'' := fun w' h => (hCp w').mono fun e w'' h2 => ⟨⟨h2.1, Lib.hid h2.2.1⟩, h.trans h2.2.2⟩
  have hKf' : ∀ w', Hid (U (r.ev * r.bu)) → Ext W w' → Calls Tryz.prog 130 #[.agg #[.int .u8 K, .int .u64 A, .int .u64 Bb], .int .u64 ck, .int .u64 (r.ev * r.bu)] w' fun e w'' => e = .returned (.int .u64 (fil K A Bb ck (r.ev * r.bu))) ∧ Ext W w'' := fun w' hu h => (hKf hu.out w').mono fun e w'' h2 => ⟨h2.1, h.trans h2.2⟩
  have hst : Ext W W := Ext.refl W
  have hWd : Ext W W.drew := (Ext.refl W).drew
  clear hCp hKf c0 c1 c2 c3 c4 c5 c6 c7 hA hB hc
  go_region_held3 (Ext W) (first | assumption | repeat (first | exact Ext.refl _ | assumption | apply Ext.drew | apply Ext.alloc | (refine Ext.setCell ?_ (by simp <;> omega) _) | refine Ext.trans ?_ (by assumption))) (first
    | (go_at_call 124; refine (hCp' _ (by assumption)).mono ?_; rintro e w9 ⟨⟨rfl, hU⟩, hb⟩)
    | (go_at_call 130; refine (hKf' _ (by assumption) (by assumption)).mono ?_; rintro e w9 ⟨rfl, hb⟩))
  go_wp2
  go_ret
  exact ⟨rfl, hx0.trans hb⟩

end Go.Proofs.YtdgcgpapcbjfhaaGreatDoor

/- A table's slot of a key, where no key is. -/
namespace Go.Proofs.YtdgcgpapcbjfhaaGreatDoor
open Go.RowKit

def zslotV : Value := .agg #[.string ⟨#[]⟩, .string ⟨#[]⟩, .int .u64 0, .int .u64 0, .int .u8 0, .int .u8 0, .int .u64 0, .int .u64 0]

set_option maxHeartbeats 1600000 in
theorem pSlot0 (t : Nat) (mo ck : Int) (mb mk : Nat) (k : List UInt8) (r : Rl) (w : World) (hT : TabAt w t mo ck mb #[] mk) :
    Calls Tryz.prog 122 #[.pointer (some ⟨t, 0, none⟩), .string (strOf k), rlV r] w fun e w' => e = .returned (.tuple #[zslotV, .bool false]) ∧ Ext w w' := by
  have hlk : ∀ w', Ext w w' → (Instr.lookup 133 (.map (some mb)) (.string (strOf k)) true).run Tryz.prog w' = .ok (.tuple #[zslotV, .bool false]) w' := fun w' h =>
    lookN (z := zslotV) (show Tryz.prog.underlying 133 = some (.map 9 196) by kernel_rfl) (show Tryz.prog.underlying 9 = some .string by kernel_rfl) (fun b w => ckStr (show Tryz.prog.underlying 9 = some .string by kernel_rfl) b _ w) (hT.ext h).m rfl (fun w => by kernel_rfl) true
  have htl : t < w.heap.size := World.block_lt_of_cell? w _ hT.c0
  have hc2 := hT.c2
  clear hT
  unfold rlV
  unfold zslotV at *
  go_enter Tryz.func122, Tryz.ntmps122
  have hl1 := hlk ((w.alloc (.cells #[.string (strOf r.pre), .int .u64 r.ev, .int .u64 r.bu, .int .u8 (r.kd : Int)] 47)).alloc (.cells #[.string ⟨#[]⟩, .string ⟨#[]⟩, .int .u64 0, .int .u64 0, .int .u8 0, .int .u8 0, .int .u64 0, .int .u64 0] 196)) (((Ext.refl w).alloc _).alloc _)
  clear hlk
  go_wp2
  clear hl1
  go_region
  go_wp2
  exact bodyPost_ret (v := .tuple #[.agg #[.string ⟨#[]⟩, .string ⟨#[]⟩, .int .u64 0, .int .u64 0, .int .u8 0, .int .u8 0, .int .u64 0, .int .u64 0], .bool false]) (by simp [results, Tryz.results122, go_sem]) rfl ⟨rfl, by repeat (first | exact Ext.refl _ | assumption | apply Ext.drew | apply Ext.alloc | (refine Ext.setCell ?_ (by simp <;> omega) _) | refine Ext.trans ?_ (by assumption))⟩

end Go.Proofs.YtdgcgpapcbjfhaaGreatDoor
