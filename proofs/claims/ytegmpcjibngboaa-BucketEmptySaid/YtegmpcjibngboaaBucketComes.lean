/- BucketComes, BucketKind: the walks. -/
import Derived.Test.YtegmpcjibngboaaBucketKnown
set_option linter.unusedVariables false
namespace Go.Proofs.Ytegmpcjibngboaa
open Go.RowKit

attribute [local go_sem] ite_min ite_max

theorem b_yes {k A B now cap v : Int} (h : v ≤ tok A B now cap) : bK k A B now cap v = 2 ∧ bA A B now cap v = tok A B now cap - v ∧ bB A B now cap v = now ∧ bok A B now cap v = true := by
  unfold bK bA bB bok; simp [h]

theorem b_no {k A B now cap v : Int} (h : ¬ v ≤ tok A B now cap) : bK k A B now cap v = k ∧ bA A B now cap v = A ∧ bB A B now cap v = B ∧ bok A B now cap v = false := by
  unfold bK bA bB bok; simp [h]

theorem bComes_yes {A B now cap v : Int} (hA : U A) (hB : U B) (hn : U now) (hc : U cap) (hv : U v) (h : v ≤ tok A B now cap) : bfill (tok A B now cap - v) now now cap = bfill A B now cap + v := by
  have h1 := tok_U hA hB hn hc
  have h2 := tok_le A B now cap
  unfold U at *
  unfold bfill
  generalize tok A B now cap = T at *
  unfold tok uadd usub; omega

set_option maxHeartbeats 1000000 in
theorem bComes (k0 A0 B0 now most v k : Int) (h0 : 0 ≤ k0 ∧ k0 ≤ 255) (hA : U A0) (hB : U B0) (hn : U now) (hm : U most) (hv : U v) (hk : 0 ≤ k ∧ k ≤ 255) (w : World) :
    Calls Try.prog 5 #[.agg #[.int .u8 k0, .int .u64 A0, .int .u64 B0], .int .u64 now, .int .u64 most, .int .u64 v, .int .u8 k] w
      fun e w' => e = .returned (.bool true) ∧ Ext w w' := by
  have hv' := shr_U hv (k % 64).toNat
  obtain ⟨x, ex⟩ : ∃ x, v / 2 ^ (k % 64).toNat = x := ⟨_, rfl⟩
  rw [ex] at hv'
  have hF := bfill_U hA hB hn hm
  have hT := tok_U hA hB hn hm
  obtain ⟨F, eF⟩ : ∃ F, bfill A0 B0 now most = F := ⟨_, rfl⟩
  have hFl : F = most - tok A0 B0 now most := by rw [← eF]; rfl
  rw [eF] at hF
  have hcome := @bComes_yes A0 B0 now most x hA hB hn hm hv'
  rw [eF] at hcome
  have hfin : (x ≤ tok A0 B0 now most → F + x ≤ most) ∧ (¬ x ≤ tok A0 B0 now most → most - F < x) := by rw [hFl]; constructor <;> intro h <;> omega
  have hFm : F ≤ most := by rw [hFl]; have := hT.lo; omega
  have HC := Lib.hid hcome; have HX := Lib.hid ex; have HF := Lib.hid eF; have HN := Lib.hid hfin
  clear hcome ex eF hfin hFl
  obtain ⟨hv1, hv2⟩ := hv
  obtain ⟨hm1, hm2⟩ := hm
  obtain ⟨hk1, hk2⟩ := hk
  obtain ⟨hF1, hF2⟩ := hF
  obtain ⟨hx1, hx2⟩ := hv'
  go_enter Try.func5, Try.ntmps5
  go_wp2_with fail
  rw [HX.out]
  refine (bFill k0 A0 B0 now most hA hB hn ⟨hm1, hm2⟩ _).mono ?_
  rintro e1 w1 ⟨rfl, hb1⟩
  rw [HF.out]
  have z1 : w.heap.size < w1.heap.size := by have := hb1.size; simp at this; omega
  have s0 : w1.cell? ⟨w.heap.size, 0, none⟩ = some (.int .u8 k0) := hb1.reads (by go_simp)
  have s1 : w1.cell? ⟨w.heap.size, 1, none⟩ = some (.int .u64 A0) := hb1.reads (by go_simp)
  have s2 : w1.cell? ⟨w.heap.size, 2, none⟩ = some (.int .u64 B0) := hb1.reads (by go_simp)
  go_wp2_with fail
  refine (bDecide k0 A0 B0 now most x hA hB hn ⟨hm1, hm2⟩ ⟨hx1, hx2⟩ _).mono ?_
  rintro e2 w2 ⟨rfl, hb2⟩
  by_cases hle : x ≤ tok A0 B0 now most
  · obtain ⟨y1, y2, y3, y4⟩ := @b_yes k0 A0 B0 now most x hle
    rw [y1, y2, y3, y4]
    clear y1 y2 y3 y4
    have hN := HN.out.1 hle
    have hTx : U (tok A0 B0 now most - x) := by have := hT.lo; have := hT.hi; unfold U; omega
    have hC := HC.out hle
    obtain ⟨A', eA⟩ : ∃ a, tok A0 B0 now most - x = a := ⟨_, rfl⟩
    rw [eA] at hC hTx ⊢
    have HC' := Lib.hid hC; clear hC eA
    go_wp2_with fail
    refine (bKnown _).mono ?_
    rintro e3 w3 ⟨rfl, hb3⟩
    have t0 : w3.cell? ⟨w2.heap.size, 0, none⟩ = some (.int .u8 2) := hb3.reads (by go_simp)
    have t1 : w3.cell? ⟨w2.heap.size, 1, none⟩ = some (.int .u64 A') := hb3.reads (by go_simp)
    have t2 : w3.cell? ⟨w2.heap.size, 2, none⟩ = some (.int .u64 now) := hb3.reads (by go_simp)
    go_wp2_with fail
    refine (bFill 2 A' now now most hTx hn hn ⟨hm1, hm2⟩ _).mono ?_
    rintro e4 w4 ⟨rfl, hb4⟩
    rw [HC'.out]
    have u0 := hb4.reads t0
    have u1 := hb4.reads t1
    have u2 := hb4.reads t2
    go_wp2
    go_ret
    exact ⟨rfl, by repeat (first | exact Ext.refl _ | assumption | apply Ext.drew | apply Ext.alloc | (refine Ext.setCell ?_ (by simp <;> omega) _) | refine Ext.trans ?_ (by assumption))⟩
  · obtain ⟨y1, y2, y3, y4⟩ := @b_no k0 A0 B0 now most x hle
    rw [y1, y2, y3, y4]
    clear y1 y2 y3 y4
    have hN := HN.out.2 (by omega)
    go_wp2_with fail
    refine (bKnown _).mono ?_
    rintro e3 w3 ⟨rfl, hb3⟩
    have s'0 := hb2.reads s0
    have s'1 := hb2.reads s1
    have s'2 := hb2.reads s2
    have z2 : w.heap.size < w2.heap.size := by have := hb2.size; omega
    have t0 : w3.cell? ⟨w2.heap.size, 0, none⟩ = some (.int .u8 k0) := hb3.reads (by go_simp)
    have t1 : w3.cell? ⟨w2.heap.size, 1, none⟩ = some (.int .u64 A0) := hb3.reads (by go_simp)
    have t2 : w3.cell? ⟨w2.heap.size, 2, none⟩ = some (.int .u64 B0) := hb3.reads (by go_simp)
    have s''0 : w3.cell? ⟨w.heap.size, 0, none⟩ = some (.int .u8 k0) := hb3.reads (by go_simp)
    have s''1 : w3.cell? ⟨w.heap.size, 1, none⟩ = some (.int .u64 A0) := hb3.reads (by go_simp)
    have s''2 : w3.cell? ⟨w.heap.size, 2, none⟩ = some (.int .u64 B0) := hb3.reads (by go_simp)
    go_wp2
    go_ret
    exact ⟨rfl, by repeat (first | exact Ext.refl _ | assumption | apply Ext.drew | apply Ext.alloc | (refine Ext.setCell ?_ (by simp <;> omega) _) | refine Ext.trans ?_ (by assumption))⟩

end Go.Proofs.Ytegmpcjibngboaa
