/- NumAsks: the walk. -/
import Derived.Test.YtnicanbkocphlaaNumAsksIn
import Derived.OpenShut
set_option linter.unusedVariables false
namespace Go.Proofs.Ytnicanbkocphlaa
open Go.RowKit

attribute [local go_sem] ite_min ite_max

/-- What is known of a slice of integers that came in: it is nil; or it leads to a row of cap cells, the numbers zs; the first len are its elements. -/
def IsRow (k : IntKind) (w : World) (a : Option Addr) (len cap : Nat) (zs : List Int) : Prop :=
  (a = none ∧ len = 0 ∧ cap = 0 ∧ zs = []) ∨
  ∃ x, a = some x ∧ len ≤ cap ∧ cap ≤ maxLen ∧ zs.length = cap ∧ (∀ i, i < zs.length → w.cell? (x.add i) = some (.int k (zs.getD i 0))) ∧ ∀ n ∈ zs, (Lit.int k n).wf = true

theorem nAddE (a : Option Addr) (cap : Nat) (w : World) :
    Calls Try.prog 21 #[.slice a 0 cap] w fun e w' => e = .returned (.int .u64 0) ∧ w = w' := by
  go_enter Try.func21, Try.ntmps21
  go_wp2
  go_loop [3, 5, 8] (fun s x i => s = .int .u64 0 ∧ i = .int .i64 0) (fun _ _ _ => 0)
  case atStart => exact ⟨rfl, rfl⟩
  case round =>
    obtain ⟨rfl, rfl⟩ := hrel
    go_wp2
    go_ret
    exact ⟨rfl, rfl⟩

theorem rAllE (a : Option Addr) (cap : Nat) (w : World) :
    Calls Try.prog 34 #[.slice a 0 cap] w fun e w' => e = .returned (.int .u64 0) ∧ w = w' := by
  go_enter Try.func34, Try.ntmps34
  go_wp2
  go_loop [3, 4] (fun s i => s = .int .u64 0 ∧ i = .int .i64 0) (fun _ _ => 0)
  case atStart => exact ⟨rfl, rfl⟩
  case round =>
    obtain ⟨rfl, rfl⟩ := hrel
    go_wp2
    go_ret
    exact ⟨rfl, rfl⟩

/-- The sums of all that a slice holds, by both. -/
theorem sum_both (a : Option Addr) (len cap : Nat) (zs : List Int) (W : World) (hr : IsRow .u64 W a len cap zs) :
    ∃ S, ∀ w, Ext W w → Calls Try.prog 21 #[.slice a len cap] w (fun e w' => e = .returned (.int .u64 S) ∧ w = w') ∧ Calls Try.prog 34 #[.slice a len cap] w (fun e w' => e = .returned (.int .u64 S) ∧ w = w') := by
  by_cases h0 : len = 0
  · subst h0
    exact ⟨0, fun w _ => ⟨nAddE a cap w, rAllE a cap w⟩⟩
  · rcases hr with ⟨rfl, rfl, rfl, rfl⟩ | ⟨x, rfl, hl, hm, hz, hc, hw⟩
    · exact absurd rfl h0
    · obtain ⟨b, off, rfl, hc'⟩ := ints_at hc (by omega)
      have hlen : (zs.take len).length = len := by simp; omega
      have hg : ∀ i, i < len → (zs.take len).getD i 0 = zs.getD i 0 := fun i hi => take_getD (by rw [hlen]; exact hi)
      have hU : ∀ i, i < (zs.take len).length → U ((zs.take len).getD i 0) := fun i hi => by
        rw [hlen] at hi
        rw [hg i hi]
        have hi' : i < zs.length := by omega
        exact bounds_u64 (hw (zs.getD i 0) (by simp [List.getD, hi']))
      have hcell : ∀ w, Ext W w → ∀ i, i < (zs.take len).length → w.cell? ⟨b, off + i, none⟩ = some (.int .u64 ((zs.take len).getD i 0)) := fun w hx i hi => by
        rw [hlen] at hi
        rw [hg i hi]
        exact hx.reads (hc' i (by omega))
      refine ⟨usum (zs.take len), fun w hx => ?_⟩
      have h1 := nAdd (zs.take len) b off cap hU (by rw [hlen]; omega) w (hcell w hx)
      have h2 := rAll (zs.take len) b off cap hU (by rw [hlen]; omega) w (hcell w hx)
      rw [hlen] at h1 h2
      exact ⟨h1, h2⟩

set_option maxHeartbeats 1000000 in
theorem nAsksLaw (a b c t : Int) (l : Option Addr) (len cap : Nat) (zs : List Int) (k : Int) (ha : U a) (hb : U b) (hc : U c) (ht : -9223372036854775808 ≤ t ∧ t ≤ 9223372036854775807) (hk : 0 ≤ k ∧ k ≤ 255) (w : World) (hr : IsRow .u64 w l len cap zs) :
    Calls Try.prog 16 #[.int .u64 a, .int .u64 b, .int .u64 c, .int .i64 t, .slice l len cap, .int .u8 k] w fun e w' => e = .returned (.bool true) ∧ Ext w w' := by
  obtain ⟨S, hS⟩ := sum_both l len cap zs w hr
  have HS := Lib.hid hS
  clear hS
  have hlm : len ≤ 9223372036854775807 := by
    rcases hr with ⟨_, h, _, _⟩ | ⟨_, _, h1, h2, _⟩
    · omega
    · unfold maxLen at h2; omega
  clear hr
  obtain ⟨ht1, ht2⟩ := ht
  obtain ⟨hk1, hk2⟩ := hk
  have ha' := ha; have hb' := hb; have hc' := hc
  obtain ⟨ha1, ha2⟩ := ha
  obtain ⟨hb1, hb2⟩ := hb
  obtain ⟨hc1, hc2⟩ := hc
  by_cases hl : 60 < len
  · have hl' : (60 : Int) < (len : Int) := by omega
    go_enter Try.func16, Try.ntmps16
    go_wp2_with fail
    refine (nKnown _).mono ?_
    rintro e1 w1 ⟨rfl, hb1⟩
    go_wp2
    go_ret
    exact ⟨rfl, by repeat (first | exact Ext.refl _ | assumption | apply Ext.drew | apply Ext.alloc | (refine Ext.setCell ?_ (by simp <;> omega) _) | refine Ext.trans ?_ (by assumption))⟩
  · have hl' : ¬ (60 : Int) < (len : Int) := by omega
    have hn1 : (2 : Int) ^ (k % 64).toNat ≤ 2 ^ 63 := by exact_mod_cast Nat.pow_le_pow_right (by omega) (by omega : (k % 64).toNat ≤ 63)
    have hn2 : (0 : Int) < 2 ^ (k % 64).toNat := Int.pow_pos (by omega)
    have h63 : (2 : Int) ^ 63 = 9223372036854775808 := by decide
    rw [h63] at hn1
    clear h63
    go_enter Try.func16, Try.ntmps16
    go_wp2_with fail
    refine (nKnown _).mono ?_
    rintro e1 w1 ⟨rfl, hx1⟩
    go_wp2_with fail
    refine (nAsks a b c ha' hb' hc' _).mono ?_
    rintro e2 w2 ⟨rfl, hx2⟩
    go_wp2_with fail
    refine (nAsks _ _ c (shr_U ha' _) (shr_U hb' _) hc' _).mono ?_
    rintro e3 w3 ⟨rfl, hx3⟩
    go_wp2_with fail
    refine (nAsks a _ _ ha' (by unfold U; omega) (shr_U hc' _) _).mono ?_
    rintro e4 w4 ⟨rfl, hx4⟩
    go_wp2_with fail
    refine (nClamp t ht1 ht2 _).mono ?_
    rintro e5 w5 ⟨rfl, rfl⟩
    go_wp2_with fail
    refine (r2Clamp t ht1 ht2 _).mono ?_
    rintro e5 w5 ⟨rfl, rfl⟩
    go_wp2_with fail
    have hE : Ext w w4 := ((hx1.trans hx2).trans hx3).trans hx4
    refine (HS.out _ hE).1.mono ?_
    rintro e5 w5 ⟨rfl, rfl⟩
    go_wp2_with fail
    refine (HS.out _ hE).2.mono ?_
    rintro e5 w5 ⟨rfl, rfl⟩
    go_wp2
    go_ret
    exact ⟨rfl, hE⟩

end Go.Proofs.Ytnicanbkocphlaa
