/- Is a policy right? The document's question. -/
import Derived.Test.YtdgcgpapcbjfhaaGreatDoorJ41Pr
import Derived.Test.YtdgcgpapcbjfhaaGreatDoorJ13RuleRW
import Derived.Test.YtdgcgpapcbjfhaaGreatDoorJ10LKey
import Derived.Test.YtdgcgpapcbjfhaaGreatDoorJ12SplitR
import Derived.Test.YtdgcgpapcbjfhaaGreatDoorJ37All
import Derived.RegionTactic
import Derived.Deep.RegionHeld3
import Derived.Deep.AppendLies
import Derived.Sort.AtCall
import Derived.StillTailTactics
import Derived.MapKept
import Derived.Deep.CutRange
import Derived.Test.YtdgcgpapcbjfhaaGreatDoorJ15OrdR
set_option linter.unusedVariables false
set_option linter.unusedSimpArgs false

/- A rule in words, as the document prints it. -/
namespace Go.Proofs.YtdgcgpapcbjfhaaGreatDoor
open Go.RowKit

/-- words in memory -/
def WordsAt (w : World) (g : Nat) (ts : List ByteArray) : Prop := ∀ i, i < ts.length → w.cell? ⟨g, i, none⟩ = some (.string (ts.getD i ByteArray.empty))
theorem WordsAt.ext {w w' : World} {g : Nat} {ts : List ByteArray} (h : WordsAt w g ts) (hx : Ext w w') : WordsAt w' g ts := fun i hi => hx.reads (h i hi)

theorem own_lit (w : World) (base : Nat) (hb : base ≤ w.heap.size) (t : TypeId) (xs : List Value) (hx : xs.length ≤ 1000) : (w.alloc (.cells xs.toArray t)).ownsRow base t 1 (.slice (some ⟨w.heap.size, 0, none⟩) xs.length xs.length) xs.length xs :=
  ⟨by omega, .inr ⟨w.heap.size, xs.length, xs.toArray, rfl, hb, (MapKept.heap_alloc w _).1, Nat.le_refl _, by unfold maxLen; omega, by simp, by simp⟩⟩

set_option maxRecDepth 100000 in
set_option maxHeartbeats 3200000 in
theorem rPrint11 (r : Rl) (h : okR r) (w : World) : Calls Tryz.prog 24 #[rlV r] w fun e w' => ∃ (g cp : Nat) (ts : List ByteArray), e = .returned (.slice (some ⟨g, 0, none⟩) ts.length cp) ∧ ts.length ≤ 5 ∧ ts.length ≤ cp ∧ cp ≤ maxLen ∧ (∀ s ∈ ts, s.size ≤ r.pre.length + 20) ∧ WordsAt w' g ts ∧ w.heap.size ≤ g ∧ Ext w w' := by
  have hR := fun W => rRight11 r h W
  obtain ⟨hp, hu, hu2, k3, k1, he, hb, hm⟩ := h
  obtain ⟨pre, ev, bu, kd⟩ := r
  dsimp only at *
  have hP1 : ∀ W, Calls Tryz.prog 8 #[.int .u64 ev] W fun e w' => e = .returned (.string (prt ev.toNat)) ∧ W = w' := fun W => by
    have := rPrint3 ev.toNat (by have := hu.2; omega) W
    rw [Int.toNat_of_nonneg hu.1] at this; exact this
  have hP2 : ∀ W, Calls Tryz.prog 8 #[.int .u64 bu] W fun e w' => e = .returned (.string (prt bu.toNat)) ∧ W = w' := fun W => by
    have := rPrint3 bu.toNat (by have := hu2.2; omega) W
    rw [Int.toNat_of_nonneg hu2.1] at this; exact this
  have hNm := fun W => rName kd (by omega) W
  obtain ⟨i0, hi, hz0, hz1, hz2⟩ := info_parts infoS
  have hs1 := prt_size ev.toNat (by have := hu.2; omega)
  have hs2 := prt_size bu.toNat (by have := hu2.2; omega)
  obtain ⟨S1, hS1⟩ : ∃ S, prt ev.toNat = S := ⟨_, rfl⟩
  obtain ⟨S2, hS2⟩ : ∃ S, prt bu.toNat = S := ⟨_, rfl⟩
  obtain ⟨S3, hS3⟩ : ∃ S, nameS kd = S := ⟨_, rfl⟩
  have hs3 : S3.size ≤ 20 := by subst hS3; unfold nameS; (repeat' split) <;> decide
  rw [hS1] at hP1 hs1
  rw [hS2] at hP2 hs2
  rw [hS3] at hNm
  clear hu hu2 hp hm hS1 hS2 hS3
  unfold rlV at *
  dsimp only at *
  by_cases hq : pre = []
  · subst hq
    have hq2 : strOf [] = ⟨#[]⟩ := rfl
    rw [hq2] at *
    go_enter Tryz.func24, Tryz.ntmps24
    go_wp2_with fail
    refine (hR _).mono ?_
    rintro e w1 ⟨rfl, hx1⟩
    have c1 : w1.cell? ⟨w.heap.size, 1, none⟩ = some (.int .u64 ev) := hx1.reads (by go_simp)
    have c2 : w1.cell? ⟨w.heap.size, 2, none⟩ = some (.int .u64 bu) := hx1.reads (by go_simp)
    have c3 : w1.cell? ⟨w.heap.size, 3, none⟩ = some (.int .u8 kd) := hx1.reads (by go_simp)
    have c0 : w1.cell? ⟨w.heap.size, 0, none⟩ = some (.string ⟨#[]⟩) := hx1.reads (by go_simp)
    have hxw := Lib.hid (Ext.past hx1)
    have hBl : w.heap.size < w1.heap.size := World.block_lt_of_cell? w1 _ c0
    clear hx1 hR
    go_wp2
    obtain ⟨G0, hG0⟩ : ∃ G, w1.heap.size = G := ⟨_, rfl⟩
    obtain ⟨W2, hW2⟩ : ∃ W2, w1.alloc (.cells #[.string ⟨#[100, 101, 102, 97, 117, 108, 116]⟩] 9) = W2 := ⟨_, rfl⟩
    have hx12 : Ext w1 W2 := by rw [← hW2]; exact (Ext.refl w1).alloc _
    have d1 := hx12.reads c1
    have d2 := hx12.reads c2
    have d3 := hx12.reads c3
    have hown : W2.ownsRow G0 9 1 (.slice (some ⟨G0, 0, none⟩) 1 1) 1 [.string ⟨#[100, 101, 102, 97, 117, 108, 116]⟩] := by
      subst hW2 hG0
      exact own_lit _ _ (Nat.le_refl _) 9 [.string ⟨#[100, 101, 102, 97, 117, 108, 116]⟩] (by simp)
    have hxw2 := Lib.hid (hxw.out.trans hx12)
    have hG0s : w1.heap.size ≤ G0 := by rw [← hG0]; simp
    have hB1 : ¬ G0 ≤ w.heap.size := by omega
    have hG0l : Hid (w.heap.size ≤ G0 ∧ G0 ≤ W2.heap.size) := Lib.hid ⟨by omega, by subst hW2 hG0; simp <;> omega⟩
    have hG0s' : G0 ≤ W2.heap.size := hG0l.out.2
    rw [hW2, hG0]
    clear hW2 hx12 hG0 c0 c1 c2 c3 hBl hG0s
    have l1 : ∀ w', But (fun k => G0 ≤ k) W2 w' → w'.cell? ⟨w.heap.size, 1, none⟩ = some (.int .u64 ev) := fun w' h => h.cell d1 hB1
    have l2 : ∀ w', But (fun k => G0 ≤ k) W2 w' → w'.cell? ⟨w.heap.size, 2, none⟩ = some (.int .u64 bu) := fun w' h => h.cell d2 hB1
    have l3 : ∀ w', But (fun k => G0 ≤ k) W2 w' → w'.cell? ⟨w.heap.size, 3, none⟩ = some (.int .u8 kd) := fun w' h => h.cell d3 hB1
    have hst : But (fun k => G0 ≤ k) W2 W2 := But.refl _ _
    have hL := Lib.hid hB1
    have hgb : ∀ x, (Value.slice (some ⟨G0, 0, none⟩) 1 1).ownBlock = some x → G0 ≤ x := fun x hx => by simp [Value.ownBlock] at hx; omega
    clear d1 d2 d3
    go_region_held3 (But (fun k => G0 ≤ k) W2) (first | assumption | exact But.grown (But.of_ext (Ext.drew (Ext.alloc (Ext.refl _) _))) (by assumption) hgb | exact But.grown (But.of_ext (Ext.alloc (Ext.drew (Ext.refl _)) _)) (by assumption) hgb | exact But.of_ext (Ext.drew (Ext.refl _)) | exact But.of_ext (Ext.drew (Ext.alloc (Ext.refl _) _)) | exact But.of_ext (Ext.alloc (Ext.drew (Ext.refl _)) _)) (first
      | (go_at_call 47; refine (hNm _).mono ?_; rintro e w9 ⟨rfl, rfl⟩)
      | (go_at_call_of 8 ev; refine (hP1 _).mono ?_; rintro e w9 ⟨rfl, rfl⟩)
      | (go_at_call_of 8 bu; refine (hP2 _).mono ?_; rintro e w9 ⟨rfl, rfl⟩)
      | (refine step_append_lies _ rfl _ _ 51 rfl G0 9 i0 (.string ⟨#[]⟩) 1 16 Tryz.underlying51 hi hz0 hz1 hz2 rfl (by decide) (.slice (some ⟨G0, 0, none⟩) 1 1) 1 [.string ⟨#[100, 101, 102, 97, 117, 108, 116]⟩] rfl (owns_ext hown (by repeat (first | exact Ext.refl _ | assumption | apply Ext.drew | apply Ext.alloc | (refine Ext.setCell ?_ (by simp <;> omega) _) | refine Ext.trans ?_ (by assumption)))) ⟨W2.heap.size, 0, none⟩ 3 3 [.string S1, .string S2, .string S3] rfl rfl (fun j u h => cells_new W2 _ _ 9 rfl j u h) (by simp [Value.oneCell']) (by decide) (by unfold maxLen; omega) (by omega) (by simp; omega) _ rfl ?_
         intro g cp w3 hown3 hgrow3 hat3 hlt3))
    all_goals
      rename_i hHd
      obtain ⟨g', cp', e', o1, o2, o3⟩ := own_cells hown3 (by omega)
      have e1 : g' = g ∧ cp' = cp := by injection e' with e1 e2 e3; injection e1 with e1; injection e1 with e1; exact ⟨e1.symm, e3.symm⟩
      obtain ⟨rfl, rfl⟩ := e1
      have o4 := (hown3.lt g' rfl).1
      have hfin := Lib.hid (And.intro (Ext.ofBut ((But.of_ext (S := fun _ => False) hxw2.out).fresh hHd (fun i h => Nat.le_trans hG0l.out.1 h))) (And.intro (Nat.le_trans hG0l.out.1 o4) (And.intro o1 (And.intro o2 o3))))
      clear hown3 hgrow3 hat3 hHd o1 o2 o3 o4 e' hlt3
      go_wp2
      go_ret
      exact ⟨g', cp', [⟨#[100, 101, 102, 97, 117, 108, 116]⟩, S1, S2, S3], rfl, by simp, hfin.out.2.2.1, hfin.out.2.2.2.1, by intro s hs; simp at hs; rcases hs with rfl | rfl | rfl | rfl <;> first | omega | exact Nat.le_trans (show _ ≤ 20 by decide) (Nat.le_add_left _ _) | (simp <;> omega), fun i hi => by
        have h9 := hfin.out.2.2.2.2 i hi
        rw [h9]
        obtain rfl | rfl | rfl | rfl := (by simp at hi; omega : i = 0 ∨ i = 1 ∨ i = 2 ∨ i = 3)
        all_goals rfl, hfin.out.2.1, hfin.out.1⟩
  · have hq2 : (strOf pre).toList.isEmpty = false := by
      rw [toList_bs, bs_strOf]
      cases h : pre with
      | nil => exact absurd h hq
      | cons a l => rfl
    have hpl : (strOf pre).size = pre.length := by rw [← bs_length, bs_strOf]
    obtain ⟨PS, hPS⟩ : ∃ P, strOf pre = P := ⟨_, rfl⟩
    rw [hPS] at hR hq2 hpl ⊢
    go_enter Tryz.func24, Tryz.ntmps24
    go_wp2_with fail
    refine (hR _).mono ?_
    rintro e w1 ⟨rfl, hx1⟩
    have c1 : w1.cell? ⟨w.heap.size, 1, none⟩ = some (.int .u64 ev) := hx1.reads (by go_simp)
    have c2 : w1.cell? ⟨w.heap.size, 2, none⟩ = some (.int .u64 bu) := hx1.reads (by go_simp)
    have c3 : w1.cell? ⟨w.heap.size, 3, none⟩ = some (.int .u8 kd) := hx1.reads (by go_simp)
    have c0 : w1.cell? ⟨w.heap.size, 0, none⟩ = some (.string PS) := hx1.reads (by go_simp)
    have hxw := Lib.hid (Ext.past hx1)
    have hBl : w.heap.size < w1.heap.size := World.block_lt_of_cell? w1 _ c0
    clear hx1 hR hPS
    go_wp2
    obtain ⟨G0, hG0⟩ : ∃ G, (w1.alloc (.cells #[.string ⟨#[100, 101, 102, 97, 117, 108, 116]⟩] 9)).heap.size = G := ⟨_, rfl⟩
    obtain ⟨W2, hW2⟩ : ∃ W2, (w1.alloc (.cells #[.string ⟨#[100, 101, 102, 97, 117, 108, 116]⟩] 9)).alloc (.cells #[.string ⟨#[114, 117, 108, 101]⟩, .string PS] 9) = W2 := ⟨_, rfl⟩
    have hGx : w1.heap.size + 1 = G0 := by rw [← hG0]; simp
    have hx12 : Ext w1 W2 := by rw [← hW2]; exact ((Ext.refl w1).alloc _).alloc _
    have d1 := hx12.reads c1
    have d2 := hx12.reads c2
    have d3 := hx12.reads c3
    have hown : W2.ownsRow G0 9 1 (.slice (some ⟨G0, 0, none⟩) 2 2) 2 [.string ⟨#[114, 117, 108, 101]⟩, .string PS] := by
      subst hW2 hG0
      exact own_lit _ _ (Nat.le_refl _) 9 [.string ⟨#[114, 117, 108, 101]⟩, .string PS] (by simp)
    have hxw2 := Lib.hid (hxw.out.trans hx12)
    have hG0s : w1.heap.size ≤ G0 := by rw [← hG0]; simp
    have hB1 : ¬ G0 ≤ w.heap.size := by omega
    have hG0l : Hid (w.heap.size ≤ G0 ∧ G0 ≤ W2.heap.size) := Lib.hid ⟨by omega, by subst hW2 hG0; simp <;> omega⟩
    have hG0s' : G0 ≤ W2.heap.size := hG0l.out.2
    rw [hW2, hGx]
    clear hGx hW2 hx12 hG0 c0 c1 c2 c3 hBl hG0s
    have l1 : ∀ w', But (fun k => G0 ≤ k) W2 w' → w'.cell? ⟨w.heap.size, 1, none⟩ = some (.int .u64 ev) := fun w' h => h.cell d1 hB1
    have l2 : ∀ w', But (fun k => G0 ≤ k) W2 w' → w'.cell? ⟨w.heap.size, 2, none⟩ = some (.int .u64 bu) := fun w' h => h.cell d2 hB1
    have l3 : ∀ w', But (fun k => G0 ≤ k) W2 w' → w'.cell? ⟨w.heap.size, 3, none⟩ = some (.int .u8 kd) := fun w' h => h.cell d3 hB1
    have hst : But (fun k => G0 ≤ k) W2 W2 := But.refl _ _
    have hL := Lib.hid hB1
    have hgb : ∀ x, (Value.slice (some ⟨G0, 0, none⟩) 2 2).ownBlock = some x → G0 ≤ x := fun x hx => by simp [Value.ownBlock] at hx; omega
    clear d1 d2 d3
    go_region_held3 (But (fun k => G0 ≤ k) W2) (first | assumption | exact But.grown (But.of_ext (Ext.drew (Ext.alloc (Ext.refl _) _))) (by assumption) hgb | exact But.grown (But.of_ext (Ext.alloc (Ext.drew (Ext.refl _)) _)) (by assumption) hgb | exact But.of_ext (Ext.drew (Ext.refl _)) | exact But.of_ext (Ext.drew (Ext.alloc (Ext.refl _) _)) | exact But.of_ext (Ext.alloc (Ext.drew (Ext.refl _)) _)) (first
      | (go_at_call 47; refine (hNm _).mono ?_; rintro e w9 ⟨rfl, rfl⟩)
      | (go_at_call_of 8 ev; refine (hP1 _).mono ?_; rintro e w9 ⟨rfl, rfl⟩)
      | (go_at_call_of 8 bu; refine (hP2 _).mono ?_; rintro e w9 ⟨rfl, rfl⟩)
      | (refine step_append_lies _ rfl _ _ 51 rfl G0 9 i0 (.string ⟨#[]⟩) 1 16 Tryz.underlying51 hi hz0 hz1 hz2 rfl (by decide) (.slice (some ⟨G0, 0, none⟩) 2 2) 2 [.string ⟨#[114, 117, 108, 101]⟩, .string PS] rfl (owns_ext hown (by repeat (first | exact Ext.refl _ | assumption | apply Ext.drew | apply Ext.alloc | (refine Ext.setCell ?_ (by simp <;> omega) _) | refine Ext.trans ?_ (by assumption)))) ⟨W2.heap.size, 0, none⟩ 3 3 [.string S1, .string S2, .string S3] rfl rfl (fun j u h => cells_new W2 _ _ 9 rfl j u h) (by simp [Value.oneCell']) (by decide) (by unfold maxLen; omega) (by omega) (by simp; omega) _ rfl ?_
         intro g cp w3 hown3 hgrow3 hat3 hlt3))
    all_goals
      rename_i hHd
      obtain ⟨g', cp', e', o1, o2, o3⟩ := own_cells hown3 (by omega)
      have e1 : g' = g ∧ cp' = cp := by injection e' with e1 e2 e3; injection e1 with e1; injection e1 with e1; exact ⟨e1.symm, e3.symm⟩
      obtain ⟨rfl, rfl⟩ := e1
      have o4 := (hown3.lt g' rfl).1
      have hfin := Lib.hid (And.intro (Ext.ofBut ((But.of_ext (S := fun _ => False) hxw2.out).fresh hHd (fun i h => Nat.le_trans hG0l.out.1 h))) (And.intro (Nat.le_trans hG0l.out.1 o4) (And.intro o1 (And.intro o2 o3))))
      clear hown3 hgrow3 hat3 hHd o1 o2 o3 o4 e' hlt3
      go_wp2
      go_ret
      exact ⟨g', cp', [⟨#[114, 117, 108, 101]⟩, PS, S1, S2, S3], rfl, by simp, hfin.out.2.2.1, hfin.out.2.2.2.1, by intro s hs; simp at hs; rcases hs with rfl | rfl | rfl | rfl | rfl <;> first | omega | exact Nat.le_trans (show _ ≤ 20 by decide) (Nat.le_add_left _ _) | (simp <;> omega), fun i hi => by
        have h9 := hfin.out.2.2.2.2 i hi
        rw [h9]
        obtain rfl | rfl | rfl | rfl | rfl := (by simp at hi; omega : i = 0 ∨ i = 1 ∨ i = 2 ∨ i = 3 ∨ i = 4)
        all_goals rfl, hfin.out.2.1, hfin.out.1⟩


end Go.Proofs.YtdgcgpapcbjfhaaGreatDoor

/- Lines of words, joined, as the document does. -/
namespace Go.Proofs.YtdgcgpapcbjfhaaGreatDoor
open Go.RowKit

theorem infoB : (Tryz.prog.info? 5).map (fun i => (i.zero, i.size, i.bytes)) = some (some (.int .u8 0), 1, 1) := by kernel_rfl
def byteV (c : UInt8) : Value := .int .u8 (c.toNat : Int)
theorem own_snoc {w : World} {base : Nat} {v : Value} {l : List UInt8} {c : UInt8} (h : w.ownsRow base 5 1 v (l.length + 1) (l.map byteV ++ [byteV c])) : w.ownsRow base 5 1 v (l ++ [c]).length ((l ++ [c]).map byteV) := by
  rw [List.length_append, List.map_append]; exact h

set_option maxRecDepth 100000 in
set_option maxHeartbeats 3200000 in
theorem rJoin (g cp : Nat) (ls : List (List ByteArray)) (hn : ls.length ≤ 1100) (hcp : ls.length ≤ cp) (hw : ∀ i, i < ls.length → (ls.getD i []).length ≤ 5) (hs : ∀ i j, i < ls.length → j < (ls.getD i []).length → ((ls.getD i []).getD j ByteArray.empty).size ≤ 200) (w : World)
    (h1 : ∀ i, i < ls.length → ∃ gk ck, (ls.getD i []).length ≤ ck ∧ w.cell? ⟨g, i, none⟩ = some (.slice (some ⟨gk, 0, none⟩) (ls.getD i []).length ck) ∧ WordsAt w gk (ls.getD i [])) :
    Calls Tryz.prog 25 #[.slice (some ⟨g, 0, none⟩) ls.length cp] w fun e w' => ∃ (v : Value) (l : List UInt8), e = .returned v ∧ w'.ownsRow w.heap.size 5 1 v l.length (l.map byteV) ∧ ls.length ≤ l.length ∧ l.length ≤ ls.length * 1100 ∧ Ext w w' := by
  obtain ⟨i0, hi, hz0, hz1, hz2⟩ := info_parts infoB
  have h1H := Lib.hid h1
  have hwH := Lib.hid hw
  have hsH := Lib.hid hs
  clear h1 hw hs
  go_enter Tryz.func25, Tryz.ntmps25
  go_wp2
  go_loopw [3, 4] (fun o i wr => ∃ (k : Nat) (l : List UInt8), k ≤ ls.length ∧ i = .int .i64 k ∧ wr.ownsRow w.heap.size 5 1 o l.length (l.map byteV) ∧ k ≤ l.length ∧ l.length ≤ k * 1100 ∧ Ext w wr) (fun _ i _ => ls.length - (intOf i).toNat)
  case atStart => exact ⟨0, [], Nat.zero_le _, rfl, World.ownsRow_nil _ _ _ _, Nat.le_refl _, Nat.zero_le _, Ext.refl _⟩
  case round =>
    obtain ⟨k, l, hk, rfl, hown, hkl, hlk, hx⟩ := hrel
    by_cases hlt : k < ls.length
    · have hW := hwH.out k hlt
      obtain ⟨gk, ck, hC, hc1', hc2'⟩ := h1H.out k hlt
      have hc1 := fun W (h : Ext w W) => h.reads hc1'
      have hc2 := fun W (h : Ext w W) => hc2'.ext h
      clear hc1' hc2'
      have hSz := fun j => hsH.out k j hlt
      generalize ls.getD k [] = ws at *
      go_wp2
      go_loopw [3, 5] (fun o jv wr => ∃ (j : Nat) (m : List UInt8), j ≤ ws.length ∧ jv = .int .i64 j ∧ wr.ownsRow w.heap.size 5 1 o m.length (m.map byteV) ∧ k ≤ m.length ∧ m.length ≤ k * 1100 + j * 201 ∧ Ext w wr) (fun _ jv _ => ws.length - (intOf jv).toNat)
      case atStart => exact ⟨0, l, Nat.zero_le _, rfl, hown, hkl, by omega, hx⟩
      case round =>
        clear hown hx hkl hlk
        obtain ⟨j, m, hj, rfl, hown, hkm, hmj, hx⟩ := hrel
        have d1 := hc1 wr hx
        by_cases hjl : j < ws.length
        · have hsz := hSz j hjl
          have hd2 := fun W (h : Ext w W) => (hc2 W h) j hjl
          generalize ws.getD j ByteArray.empty = s at *
          go_upto_if 23 with (fail)
          go_cut [3] from 13 to 50 (fun o wx => ∃ (m : List UInt8), wx.ownsRow w.heap.size 5 1 o m.length (m.map byteV) ∧ k ≤ m.length ∧ m.length ≤ k * 1100 + j * 201 + 1 ∧ Ext w wx)
          case first =>
            by_cases hj0 : j = 0
            · subst hj0
              go_wp2_with fail
              go_meet
              exact ⟨m, hown, hkm, by omega, hx⟩
            · have hjp : 0 < (j : Int) := by omega
              go_wp2_with (at_builtin; refine wpList_append_own _ rfl _ _ 22 rfl w.heap.size 5 i0 (.int .u8 0) 1 1 Tryz.underlying22 hi hz0 hz1 hz2 rfl (by decide) _ m.length (m.map byteV) rfl (hown.alloc _) ⟨wr.heap.size, 0, none⟩ 1 1 [.int .u8 32] rfl rfl ?c1 ?c2 ?c3 ?c4 ?c5 ?_)
              case c1 => exact cell_one_new _ (.int .u8 32) 5
              case c2 => simp [Value.oneCell']
              case c3 => unfold maxLen; omega
              case c4 => omega
              case c5 => have := hx.size; simp; omega
              intro v' w4 hown4 hgrow4 _
              have hx4 := ext_grown hx hown hgrow4
              clear hgrow4
              clear hown hx
              go_wp2_with fail
              go_meet
              exact ⟨m ++ [32], own_snoc hown4, by simp; omega, by simp; omega, hx4⟩
          case rest =>
            clear hown hx hkm hmj d1
            obtain ⟨m, hown, hkm, hmj, hx⟩ := hcut
            go_wp2
            go_loopw [3, 6] (fun o qv wr => ∃ (q : Nat) (m : List UInt8), q ≤ s.size ∧ qv = .int .i64 q ∧ wr.ownsRow w.heap.size 5 1 o m.length (m.map byteV) ∧ k ≤ m.length ∧ m.length ≤ k * 1100 + j * 201 + 1 + q ∧ Ext w wr) (fun _ qv _ => s.size - (intOf qv).toNat)
            case atStart => exact ⟨0, m, Nat.zero_le _, rfl, hown, hkm, hmj, hx⟩
            case round =>
              clear hown hx hkm hmj
              obtain ⟨q, m, hq, rfl, hown, hkm, hmj, hx⟩ := hrel
              have d1 := hc1 wr hx
              have d2 := hd2 wr hx
              by_cases hql : q < s.size
              · skip
                go_wp2_with (at_builtin; refine wpList_append_own _ rfl _ _ 22 rfl w.heap.size 5 i0 (.int .u8 0) 1 1 Tryz.underlying22 hi hz0 hz1 hz2 rfl (by decide) _ m.length (m.map byteV) rfl (hown.alloc _) ⟨wr.heap.size, 0, none⟩ 1 1 [.int .u8 (s[q].toNat : Int)] rfl rfl ?c1 ?c2 ?c3 ?c4 ?c5 ?_)
                case c1 => exact cell_one_new _ (.int .u8 (s[q].toNat : Int)) 5
                case c2 => simp [Value.oneCell']
                case c3 => unfold maxLen; omega
                case c4 => omega
                case c5 => have := hx.size; simp; omega
                intro v' w4 hown4 hgrow4 _
                have hx4 := ext_grown hx hown hgrow4
                clear hgrow4
                clear hown hx d1 d2
                go_wp2
                go_roundw
                case rel => exact ⟨q + 1, m ++ [s[q]], by omega, by go_num, own_snoc hown4, by simp; omega, by simp; omega, hx4⟩
                case measure => simp [intOf]; omega
              · obtain rfl : q = s.size := by omega
                go_wp2
                go_roundw
                case rel => exact ⟨j + 1, m, by omega, by go_num, hown, hkm, by omega, hx⟩
                case measure => simp [intOf]; omega
        · obtain rfl : j = ws.length := by omega
          go_wp2_with (at_builtin; refine wpList_append_own _ rfl _ _ 22 rfl w.heap.size 5 i0 (.int .u8 0) 1 1 Tryz.underlying22 hi hz0 hz1 hz2 rfl (by decide) _ m.length (m.map byteV) rfl (hown.alloc _) ⟨wr.heap.size, 0, none⟩ 1 1 [.int .u8 10] rfl rfl ?c1 ?c2 ?c3 ?c4 ?c5 ?_)
          case c1 => exact cell_one_new _ (.int .u8 10) 5
          case c2 => simp [Value.oneCell']
          case c3 => unfold maxLen; omega
          case c4 => omega
          case c5 => have := hx.size; simp; omega
          intro v' w4 hown4 hgrow4 _
          have hx4 := ext_grown hx hown hgrow4
          clear hgrow4
          clear hown hx
          go_wp2
          go_roundw
          case rel => exact ⟨k + 1, m ++ [10], by omega, by go_num, own_snoc hown4, by simp; omega, by simp; omega, hx4⟩
          case measure => simp [intOf]; omega
    · obtain rfl : k = ls.length := by omega
      go_wp2
      go_ret
      exact ⟨_, l, rfl, hown, hkl, hlk, hx⟩

end Go.Proofs.YtdgcgpapcbjfhaaGreatDoor

/- Is a policy right? The document's question. -/
namespace Go.Proofs.YtdgcgpapcbjfhaaGreatDoor
open Go.RowKit

theorem rFindI (rs : List Rl) (v : Value) (p : List UInt8) (hn : rs.length ≤ 1000000) (hp : hasP rs p = true) (w : World) (h : RulesAt w v rs) :
    Calls Tryz.prog 41 #[v, .string (strOf p)] w fun e w' => ∃ k : Nat, e = .returned (.int .i64 k) ∧ k < rs.length ∧ (rs.getD k Rl0).pre = p ∧ w = w' := by
  obtain ⟨a, cp, rfl, hf⟩ := h.form
  have hH := Lib.hid h
  have hF := Lib.hid hf
  clear h hf
  go_enter Tryz.func41, Tryz.ntmps41
  go_wp2
  go_loop [5] (fun i => ∃ k : Nat, k ≤ rs.length ∧ i = .int .i64 k ∧ Hid (hasP (rs.take k) p = false)) (fun i => rs.length - (intOf i).toNat)
  case atStart => exact ⟨0, Nat.zero_le _, rfl, Lib.hid rfl⟩
  case round =>
    obtain ⟨k, hk, rfl, hI⟩ := hrel
    by_cases hlt : k < rs.length
    · obtain ⟨g, ea, hgs, hcp, hcm⟩ := hF.out (by rintro rfl; simp at hlt)
      have hc0 := (RulesAt.cells (by rw [← ea]; exact hH.out) hlt).1
      have hB := strEq (rs.getD k Rl0).pre p
      have hT := Lib.hid (fun h => hasP_take hlt hI.out h)
      have hY : Hid (decide ((rs.getD k Rl0).pre = p) = true → (rs.getD k Rl0).pre = p) := Lib.hid (fun h => of_decide_eq_true h)
      clear hI
      subst ea
      generalize decide ((rs.getD k Rl0).pre = p) = B at *
      generalize strOf (rs.getD k Rl0).pre = S1 at *
      generalize strOf p = S2 at *
      cases B
      · have hN := Lib.hid (hT.out rfl)
        clear hT hY
        go_wp2
        go_round
        case rel => exact ⟨k + 1, by omega, by go_num, hN⟩
        case measure => (simp [intOf]) <;> omega
      · have hN := Lib.hid (hY.out rfl)
        clear hT hY
        go_wp2
        go_ret
        exact ⟨k, rfl, hlt, hN.out, rfl⟩
    · obtain rfl : k = rs.length := by omega
      have hN : Hid (hasP rs p = false) := Lib.hid (by have := hI.out; rwa [List.take_length] at this)
      clear hI
      exact absurd hp (by rw [hN.out]; decide)

theorem pre_injR {rs : List Rl} (hd : rs.Pairwise (fun a b => a.pre ≠ b.pre)) {i j : Nat} (hi : i < rs.length) (hj : j < rs.length) (h : (rs.getD i Rl0).pre = (rs.getD j Rl0).pre) : i = j := by
  rw [getD_lt _ _ _ hi, getD_lt _ _ _ hj] at h
  rw [List.pairwise_iff_getElem] at hd
  rcases Nat.lt_trichotomy i j with h1 | h1 | h1
  · exact absurd h (hd i j hi hj h1)
  · exact h1
  · exact absurd h.symm (hd j i hj hi h1)

set_option maxRecDepth 100000 in
set_option maxHeartbeats 3200000 in
theorem rRight12 (m : Nat) (v : Value) (rs : List Rl) (h1 : 1 ≤ m) (h2 : m ≤ 1000000) (hn : rs.length ≤ 1000) (hok : ∀ r ∈ rs, okR r) (hz : hasP rs [] = true) (hd : rs.Pairwise (fun a b => a.pre ≠ b.pre)) (w : World) (hv : RulesAt w v rs) :
    Calls Tryz.prog 22 #[plV m v] w fun e w' => e = .returned (.int .i64 0) ∧ Ext w w' := by
  have hFz := fun W (hx : Ext w W) => rFindI rs v [] (by omega) hz W (hv.ext hx)
  have hFi : ∀ k, k < rs.length → ∀ W, Ext w W → Calls Tryz.prog 41 #[v, .string (strOf (rs.getD k Rl0).pre)] W fun e w' => e = .returned (.int .i64 k) ∧ W = w' := fun k hk W hx => by
    refine (rFindI rs v (rs.getD k Rl0).pre (by omega) ?_ W (hv.ext hx)).mono ?_
    · unfold hasP; rw [List.any_eq_true]
      exact ⟨rs.getD k Rl0, by rw [getD_lt _ _ _ hk]; exact List.getElem_mem hk, by simp⟩
    · rintro e w' ⟨j, rfl, hj, hp, rfl⟩
      obtain rfl := pre_injR hd hj hk hp
      exact ⟨rfl, rfl⟩
  have hRi : ∀ k, k < rs.length → ∀ W, Calls Tryz.prog 45 #[rlV (rs.getD k Rl0)] W fun e w' => e = .returned (.int .i64 0) ∧ Ext W w' := fun k hk W => rRight11 _ (hok _ (by rw [getD_lt _ _ _ hk]; exact List.getElem_mem hk)) W
  have hne : rs ≠ [] := fun e => by rw [e] at hz; cases hz
  obtain ⟨va, vc, rfl, hvf⟩ := hv.form
  obtain ⟨g, rfl, hgs, hgc, hgm⟩ := hvf hne
  have hvH := Lib.hid hv
  have hm1 : ¬ ((m : Int) < 1) := by omega
  have hm2 : ¬ (1000000 < (m : Int)) := by omega
  clear hv hvf hz hd hok h1 h2
  unfold plV
  unfold rlV at hRi
  go_enter Tryz.func22, Tryz.ntmps22
  obtain ⟨B, hB⟩ : ∃ B, w.heap.size = B := ⟨_, rfl⟩
  obtain ⟨W, hW⟩ : ∃ W, w.alloc (.cells #[.int .i64 m, .slice (some ⟨g, 0, none⟩) rs.length vc] 30) = W := ⟨_, rfl⟩
  have hx0 : Ext w W := by rw [← hW]; exact (Ext.refl w).alloc _
  have a0 : W.cell? ⟨B, 0, none⟩ = some (.int .i64 m) := by subst hW hB; go_simp
  have a1 : W.cell? ⟨B, 1, none⟩ = some (.slice (some ⟨g, 0, none⟩) rs.length vc) := by subst hW hB; go_simp
  go_wp2
  clear hW hB
  go_loopw [3] (fun i wr => ∃ k : Nat, k ≤ rs.length ∧ i = .int .i64 k ∧ Ext W wr) (fun i _ => rs.length - (intOf i).toNat)
  case atStart => exact ⟨0, Nat.zero_le _, rfl, Ext.refl _⟩
  case round =>
    obtain ⟨k, hk, rfl, hx⟩ := hrel
    have b1 := hx.reads a1
    by_cases hlt : k < rs.length
    · obtain ⟨c0, c1, c2, c3⟩ := RulesAt.cells (hvH.out.ext (hx0.trans hx)) hlt
      have hR := hRi k hlt
      generalize rs.getD k Rl0 = r at *
      go_wp2_with fail
      refine (hR _).mono ?_
      rintro e w2 ⟨rfl, hx2⟩
      have hx3 := Lib.hid (hx.trans hx2)
      clear c0 c1 c2 c3 hR hx hx2 b1
      go_wp2
      go_roundw
      case rel => exact ⟨k + 1, by omega, by go_num, hx3.out⟩
      case measure => simp [intOf]; omega
    · obtain rfl : k = rs.length := by omega
      go_wp2_with fail
      refine (hFz _ (hx0.trans hx)).mono ?_
      rintro e w2 ⟨j, rfl, hj, -, rfl⟩
      have hj0 : ¬ ((j : Int) < 0) := by omega
      go_wp2
      clear b1
      go_loopw [4] (fun i wr => ∃ k : Nat, k ≤ rs.length ∧ i = .int .i64 k ∧ Ext W wr) (fun i _ => rs.length - (intOf i).toNat)
      case atStart => exact ⟨0, Nat.zero_le _, rfl, hx⟩
      case round =>
        clear hx
        obtain ⟨k, hk, rfl, hx⟩ := hrel
        have b1 := hx.reads a1
        by_cases hlt : k < rs.length
        · obtain ⟨c0, c1, c2, c3⟩ := RulesAt.cells (hvH.out.ext (hx0.trans hx)) hlt
          have hF := hFi k hlt
          have hkk : ¬ ((k : Int) < (k : Int)) := by omega
          have l1 : ∀ w', Ext wr w' → w'.cell? ⟨B, 1, none⟩ = some (.slice (some ⟨g, 0, none⟩) rs.length vc) := fun w' h => h.reads b1
          have l2 : ∀ w', Ext wr w' → w'.cell? ⟨g, k * 4, none⟩ = some (.string (strOf (rs.getD k Rl0).pre)) := fun w' h => h.reads c0
          have hF' : ∀ w', Ext wr w' → Calls Tryz.prog 41 #[.slice (some ⟨g, 0, none⟩) rs.length vc, .string (strOf (rs.getD k Rl0).pre)] w' fun e w'' => e = .returned (.int .i64 k) ∧ Ext wr w'' := fun w' h => (hF w' ((hx0.trans hx).trans h)).mono fun e w'' h2 => ⟨h2.1, h2.2 ▸ h⟩
          generalize strOf (rs.getD k Rl0).pre = S at *
          have hst : Ext wr wr := Ext.refl wr
          have hWd : Ext wr wr.drew := (Ext.refl wr).drew
          have hxH := Lib.hid hx
          clear c0 c1 c2 c3 hF hx b1 hFz hFi hRi
          go_wp2
          go_region_held3 (Ext wr) (first | assumption | repeat (first | exact Ext.refl _ | assumption | apply Ext.drew | apply Ext.alloc | (refine Ext.setCell ?_ (by simp <;> omega) _) | refine Ext.trans ?_ (by assumption))) (first
            | (go_at_call 41; refine (hF' _ (by assumption)).mono ?_; rintro e w9 ⟨rfl, hb⟩))
          have hx9 := Lib.hid (hxH.out.trans hb)
          clear l1 l2 hF' hst hWd hb
          go_wp2
          go_roundw
          case rel => exact ⟨k + 1, by omega, by go_num, hx9.out⟩
          case measure => simp [intOf]; omega
        · obtain rfl : k = rs.length := by omega
          go_wp2
          go_ret
          exact ⟨rfl, hx0.trans hx⟩

end Go.Proofs.YtdgcgpapcbjfhaaGreatDoor
