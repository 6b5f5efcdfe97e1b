/- GcraParts: the walk. -/
import Derived.Test.YtegmpcjibngboaaGcraKnown
set_option linter.unusedVariables false
namespace Go.Proofs.Ytegmpcjibngboaa
open Go.RowKit

attribute [local go_sem] ite_min ite_max

set_option maxHeartbeats 2000000 in
theorem gPartsWalk (k0 A0 B0 now most v x k m K1 A1 B1 K2 A2 B2 K3 A3 B3 K4 A4 B4 : Int) (o1 o2 o3 o4 : Bool)
    (hA : U A0) (hB : U B0) (hn : U now) (hm : U most) (hv : 0 ≤ v ∧ v ≤ 4294967295) (hx : 0 ≤ x ∧ x ≤ 4294967295) (hk : 0 ≤ k ∧ k ≤ 255)
    (em : Hid (most / 2 ^ (k % 64).toNat = m)) (hm' : U m) (hA1 : U A1) (hB1 : U B1)
    (Y1 : Hid (gK k0 A0 B0 (now / 4) m v = K1 ∧ gA A0 B0 (now / 4) m v = A1 ∧ gB A0 B0 (now / 4) m v = B1 ∧ gok A0 B0 (now / 4) m v = o1))
    (Y2 : Hid (gK K1 A1 B1 (now / 4) m x = K2 ∧ gA A1 B1 (now / 4) m x = A2 ∧ gB A1 B1 (now / 4) m x = B2 ∧ gok A1 B1 (now / 4) m x = o2))
    (Y3 : Hid (gK k0 A0 B0 (now / 4) m (v + x) = K3 ∧ gA A0 B0 (now / 4) m (v + x) = A3 ∧ gB A0 B0 (now / 4) m (v + x) = B3 ∧ gok A0 B0 (now / 4) m (v + x) = o3))
    (Y4 : Hid (gK k0 A0 B0 (now / 4) m (min v x) = K4 ∧ gA A0 B0 (now / 4) m (min v x) = A4 ∧ gB A0 B0 (now / 4) m (min v x) = B4 ∧ gok A0 B0 (now / 4) m (min v x) = o4))
    (h1 : Hid (m ≤ 9223372036854775808 → (o1 && o2) = o3)) (h2 : Hid (m ≤ 9223372036854775808 → o3 = true → K2 = K3 ∧ A2 = A3 ∧ B2 = B3)) (h3 : Hid (o1 = true → o4 = true)) (w : World) :
    Calls Try.prog 18 #[.agg #[.int .u8 k0, .int .u64 A0, .int .u64 B0], .int .u64 now, .int .u64 most, .int .u32 v, .int .u32 x, .int .u8 k] w
      fun e w' => e = .returned (.bool true) ∧ Ext w w' := by
  obtain ⟨hv1, hv2⟩ := hv
  obtain ⟨hx1, hx2⟩ := hx
  obtain ⟨hk1, hk2⟩ := hk
  obtain ⟨hm1, hm2⟩ := hm
  obtain ⟨hn1, hn2⟩ := hn
  go_enter Try.func18, Try.ntmps18
  go_wp2_with fail
  rw [em.out]
  refine (gDecide k0 A0 B0 (now / 4) m v hA hB (by unfold U; omega) hm' (by unfold U; omega) _).mono ?_
  rintro e1 w1 ⟨rfl, hb1⟩
  rw [Y1.out.1, Y1.out.2.1, Y1.out.2.2.1, Y1.out.2.2.2]
  have z1 : w.heap.size < w1.heap.size := by have := hb1.size; simp at this; omega
  have s0 : w1.cell? ⟨w.heap.size, 0, none⟩ = some (.int .u8 k0) := hb1.reads (by go_simp)
  have s1 : w1.cell? ⟨w.heap.size, 1, none⟩ = some (.int .u64 A0) := hb1.reads (by go_simp)
  have s2 : w1.cell? ⟨w.heap.size, 2, none⟩ = some (.int .u64 B0) := hb1.reads (by go_simp)
  go_wp2_with fail
  refine (gDecide K1 A1 B1 (now / 4) m x hA1 hB1 (by unfold U; omega) hm' (by unfold U; omega) _).mono ?_
  rintro e2 w2 ⟨rfl, hb2⟩
  rw [Y2.out.1, Y2.out.2.1, Y2.out.2.2.1, Y2.out.2.2.2]
  have z2 : w1.heap.size < w2.heap.size := by have := hb2.size; simp at this; omega
  have z2' : w.heap.size < w2.heap.size := by omega
  have s'0 := hb2.past.reads s0
  have s'1 := hb2.past.reads s1
  have s'2 := hb2.past.reads s2
  go_wp2_with fail
  refine (gDecide k0 A0 B0 (now / 4) m (v + x) hA hB (by unfold U; omega) hm' (by unfold U; omega) _).mono ?_
  rintro e3 w3 ⟨rfl, hb3⟩
  rw [Y3.out.1, Y3.out.2.1, Y3.out.2.2.1, Y3.out.2.2.2]
  have z3 : w2.heap.size < w3.heap.size := by have := hb3.size; simp at this; omega
  have z3' : w.heap.size < w3.heap.size := by omega
  have s''0 := hb3.past.reads s'0
  have s''1 := hb3.past.reads s'1
  have s''2 := hb3.past.reads s'2
  have b0 : w3.cell? ⟨w2.heap.size, 0, none⟩ = some (.int .u8 K2) := hb3.reads (by go_simp)
  have b1 : w3.cell? ⟨w2.heap.size, 1, none⟩ = some (.int .u64 A2) := hb3.reads (by go_simp)
  have b2 : w3.cell? ⟨w2.heap.size, 2, none⟩ = some (.int .u64 B2) := hb3.reads (by go_simp)
  go_wp2_with fail
  refine (gDecide k0 A0 B0 (now / 4) m (min v x) hA hB (by unfold U; omega) hm' (by unfold U; omega) _).mono ?_
  rintro e4 w4 ⟨rfl, hb4⟩
  rw [Y4.out.1, Y4.out.2.1, Y4.out.2.2.1, Y4.out.2.2.2]
  have z4 : w3.heap.size < w4.heap.size := by have := hb4.size; simp at this; omega
  have z4' : w2.heap.size < w4.heap.size := by omega
  have b'0 := hb4.past.reads b0
  have b'1 := hb4.past.reads b1
  have b'2 := hb4.past.reads b2
  have c0 : w4.cell? ⟨w3.heap.size, 0, none⟩ = some (.int .u8 K3) := hb4.reads (by go_simp)
  have c1 : w4.cell? ⟨w3.heap.size, 1, none⟩ = some (.int .u64 A3) := hb4.reads (by go_simp)
  have c2 : w4.cell? ⟨w3.heap.size, 2, none⟩ = some (.int .u64 B3) := hb4.reads (by go_simp)
  go_wp2_with fail
  refine (gKnown _).mono ?_
  rintro e5 w5 ⟨rfl, hb5⟩
  have b''0 := hb5.past.reads b'0
  have b''1 := hb5.past.reads b'1
  have b''2 := hb5.past.reads b'2
  have c'0 := hb5.past.reads c0
  have c'1 := hb5.past.reads c1
  have c'2 := hb5.past.reads c2
  clear Y1 Y2 Y3 Y4
  by_cases hbig : 9223372036854775808 < m
  · cases o1 <;> cases o4 <;> first
      | exact absurd (h3.out rfl) (by decide)
      | (go_wp2
         go_ret
         exact ⟨rfl, by repeat (first | exact Ext.refl _ | assumption | apply Ext.drew | apply Ext.alloc | (refine Ext.setCell ?_ (by simp <;> omega) _) | refine Ext.trans ?_ (by assumption))⟩)
  · have g1 := Lib.hid (h1.out (by omega))
    have g2 := Lib.hid (h2.out (by omega))
    clear h1 h2
    cases o1 <;> cases o2 <;> cases o3 <;> cases o4 <;> first
      | exact absurd g1.out (by decide)
      | exact absurd (h3.out rfl) (by decide)
      | (obtain ⟨rfl, rfl, rfl⟩ := g2.out rfl
         go_wp2
         go_ret
         exact ⟨rfl, by repeat (first | exact Ext.refl _ | assumption | apply Ext.drew | apply Ext.alloc | (refine Ext.setCell ?_ (by simp <;> omega) _) | refine Ext.trans ?_ (by assumption))⟩)
      | (go_wp2
         go_ret
         exact ⟨rfl, by repeat (first | exact Ext.refl _ | assumption | apply Ext.drew | apply Ext.alloc | (refine Ext.setCell ?_ (by simp <;> omega) _) | refine Ext.trans ?_ (by assumption))⟩)

theorem gParts (k0 A0 B0 now most v x k : Int) (h0 : 0 ≤ k0 ∧ k0 ≤ 255) (hA : U A0) (hB : U B0) (hn : U now) (hm : U most) (hv : 0 ≤ v ∧ v ≤ 4294967295) (hx : 0 ≤ x ∧ x ≤ 4294967295) (hk : 0 ≤ k ∧ k ≤ 255) (w : World) :
    Calls Try.prog 18 #[.agg #[.int .u8 k0, .int .u64 A0, .int .u64 B0], .int .u64 now, .int .u64 most, .int .u32 v, .int .u32 x, .int .u8 k] w
      fun e w' => e = .returned (.bool true) ∧ Ext w w' := by
  have hm' := shr_U hm (k % 64).toNat
  obtain ⟨m, em⟩ : ∃ m, most / 2 ^ (k % 64).toNat = m := ⟨_, rfl⟩
  rw [em] at hm'
  obtain ⟨T, hT⟩ : ∃ T, T = now / 4 := ⟨_, rfl⟩
  obtain ⟨M, hM⟩ : ∃ M, M = max A0 T := ⟨_, rfl⟩
  have hTU : U T := by unfold U at *; omega
  have hMU : U M := by unfold U at *; omega
  have hU0 : U 0 := by unfold U; omega
  have hm1 := hm'.hi
  have hn1 := hn.hi
  have hA1 := hA.hi
  have hA0 := hA.lo
  by_cases h1 : max A0 T - T + v ≤ m
  · have hV : U v := by unfold U; omega
    have hA1 : U (uadd (max A0 T) v) := uadd_U (by rw [← hM]; exact hMU) hV
    have Y1 := @g_yes k0 A0 B0 T m v h1
    have Y4 := @g_yes k0 A0 B0 T m (min v x) (by omega)
    by_cases hb : m ≤ 9223372036854775808
    · have hu : uadd (max A0 T) v = max A0 T + v := by unfold uadd; omega
      by_cases h2 : max A0 T - T + (v + x) ≤ m
      · have Y2 := @g_yes 1 (uadd (max A0 T) v) 0 T m x (by rw [hu]; omega)
        have hu2 : uadd (max (uadd (max A0 T) v) T) x = uadd (max A0 T) (v + x) := by rw [hu]; unfold uadd; omega
        rw [hu2] at Y2
        subst hT
        exact gPartsWalk k0 A0 B0 now most v x k m _ _ _ _ _ _ _ _ _ _ _ _ _ _ _ _ hA hB hn hm hv hx hk (Lib.hid em) hm' hA1 hU0 (Lib.hid Y1) (Lib.hid Y2) (Lib.hid (@g_yes k0 A0 B0 (now / 4) m (v + x) h2)) (Lib.hid Y4)
          (Lib.hid fun _ => by decide) (Lib.hid fun _ _ => ⟨rfl, rfl, rfl⟩) (Lib.hid fun _ => rfl) w
      · have Y2 := @g_no 1 (uadd (max A0 T) v) 0 T m x (by rw [hu]; omega)
        subst hT
        exact gPartsWalk k0 A0 B0 now most v x k m _ _ _ _ _ _ _ _ _ _ _ _ _ _ _ _ hA hB hn hm hv hx hk (Lib.hid em) hm' hA1 hU0 (Lib.hid Y1) (Lib.hid Y2) (Lib.hid (@g_no k0 A0 B0 (now / 4) m (v + x) h2)) (Lib.hid Y4)
          (Lib.hid fun _ => by decide) (Lib.hid fun _ h => by cases h) (Lib.hid fun _ => rfl) w
    · subst hT
      exact gPartsWalk k0 A0 B0 now most v x k m _ _ _ _ _ _ _ _ _ _ _ _ _ _ _ _ hA hB hn hm hv hx hk (Lib.hid em) hm' hA1 hU0 (Lib.hid Y1) (Lib.hid ⟨rfl, rfl, rfl, rfl⟩) (Lib.hid ⟨rfl, rfl, rfl, rfl⟩) (Lib.hid Y4)
          (Lib.hid fun h => absurd h hb) (Lib.hid fun h => absurd h hb) (Lib.hid fun _ => rfl) w
  · subst hT
    exact gPartsWalk k0 A0 B0 now most v x k m _ _ _ _ _ _ _ _ _ _ _ _ _ _ _ _ hA hB hn hm hv hx hk (Lib.hid em) hm' hA hB (Lib.hid (@g_no k0 A0 B0 (now / 4) m v h1)) (Lib.hid ⟨rfl, rfl, rfl, rfl⟩) (Lib.hid (@g_no k0 A0 B0 (now / 4) m (v + x) (by omega))) (Lib.hid ⟨rfl, rfl, rfl, rfl⟩)
        (Lib.hid fun _ => by simp) (Lib.hid fun _ h => by cases h) (Lib.hid fun h => by cases h) w

end Go.Proofs.Ytegmpcjibngboaa
