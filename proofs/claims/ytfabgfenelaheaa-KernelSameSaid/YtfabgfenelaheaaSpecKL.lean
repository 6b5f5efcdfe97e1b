/- Plain numbers: what the laws of the layer kernel say of the three kernels; no program in sight. -/
import Derived.Test.YtfabgfenelaheaaSpecK
set_option linter.unusedVariables false
namespace Go.Proofs.Ytfabgfenelaheaa

/-- a kernel that is one -/
def Kin (K : Int) : Prop := K = 1 ∨ K = 2 ∨ K = 3
theorem Kin.of (k : Int) : Kin (1 + k % 3) := by unfold Kin; omega
theorem Kin.isK {K : Int} (h : Kin K) : isK K = true := isK_iff.2 h
theorem Kin.oK {K : Int} (h : Kin K) : oK K = K := by rcases h with rfl | rfl | rfl <;> rfl
theorem Kin.oE {K : Int} (h : Kin K) : oE K = 0 := by rcases h with rfl | rfl | rfl <;> rfl

theorem of_fil {K a m f t : Int} (hK : Kin K) (h0 : 0 ≤ a) (h1 : a ≤ t) (h2 : t ≤ 18446744073709551615) (hf : 0 ≤ f) (hm : f ≤ m) (hm' : m ≤ 18446744073709551615) (hs : a + f ≤ 18446744073709551615) :
    fil K (oA K a m f) (oB K a) t m = usub f (t - a) := by
  rcases hK with rfl | rfl | rfl
  · rw [fil_1, oA_1]; unfold gfil uadd usub; omega
  · rw [fil_2, oA_2, show oB 2 a = a from rfl]; unfold bfill tok uadd usub; omega
  · rw [fil_3, oA_3, show oB 3 a = a from rfl]; unfold lfil lfill usub; omega

theorem of_dok {K a m f t v : Int} (hK : Kin K) (h0 : 0 ≤ a) (h1 : a ≤ t) (h2 : t ≤ 18446744073709551615) (hf : 0 ≤ f) (hm : f ≤ m) (hm' : m ≤ 18446744073709551615) (hs : a + f ≤ 18446744073709551615) :
    dok K (oA K a m f) (oB K a) t m v = decide (usub f (t - a) + v ≤ m) := by
  rcases hK with rfl | rfl | rfl
  · rw [dok_1, oA_1]; unfold gok fits uadd usub; rw [decide_eq_decide]; omega
  · rw [dok_2, oA_2, show oB 2 a = a from rfl]; unfold bok tok uadd usub; rw [decide_eq_decide]; omega
  · rw [dok_3, oA_3, show oB 3 a = a from rfl]; unfold lok fits lfill usub; rw [decide_eq_decide]; omega

theorem oB_le {K a : Int} (h : 0 ≤ a) : 0 ≤ oB K a ∧ oB K a ≤ a := by
  unfold oB; repeat' split
  all_goals omega

theorem until_plain {K a m f : Int} (hK : Kin K) (h0 : 0 ≤ a) (ha : a ≤ 4611686018427387903) (hf : 0 ≤ f) (hm : f ≤ m) (hm' : m ≤ 4294967295) :
    until' K (oA K a m f) (oB K a) a m = (if f = 0 then 0 else a + f) ∧ (0 < f → fil K (oA K a m f) (oB K a) (a + f) m = 0 ∧ fil K (oA K a m f) (oB K a) (a + f - 1) m = 1) := by
  have e1 : fil K (oA K a m f) (oB K a) a m = f := by rw [of_fil hK h0 (by omega) (by omega) hf hm (by omega) (by omega)]; unfold usub; omega
  refine ⟨?_, fun h => ⟨?_, ?_⟩⟩
  · unfold until'; rw [e1]
    by_cases h : f = 0
    · rw [if_neg (by omega), if_pos h]
    · rw [if_pos (by omega), if_neg h]; unfold uadd; omega
  · rw [of_fil hK h0 (by omega) (by omega) hf hm (by omega) (by omega)]; unfold usub; omega
  · rw [of_fil hK h0 (by omega) (by omega) hf hm (by omega) (by omega)]; unfold usub; omega

theorem left_plain {K a t b f : Int} (hK : Kin K) (h0 : 0 ≤ a) (ha : a ≤ 4611686018427387903) (ht : 1 ≤ t) (ht' : t ≤ 4294967296) (hb : 0 ≤ b) (hb' : b ≤ 999) (hf : 0 ≤ f) (hm : f ≤ t * (b + 1)) :
    0 ≤ usub (t * (b + 1)) (fil K (oA K a (t * (b + 1)) f) (oB K a) a (t * (b + 1))) / t ∧
    usub (t * (b + 1)) (fil K (oA K a (t * (b + 1)) f) (oB K a) a (t * (b + 1))) / t ≤ b + 1 ∧
    dok K (oA K a (t * (b + 1)) f) (oB K a) a (t * (b + 1)) (usub (t * (b + 1)) (fil K (oA K a (t * (b + 1)) f) (oB K a) a (t * (b + 1))) / t * t) = true ∧
    dok K (oA K a (t * (b + 1)) f) (oB K a) a (t * (b + 1)) ((usub (t * (b + 1)) (fil K (oA K a (t * (b + 1)) f) (oB K a) a (t * (b + 1))) / t + 1) * t) = false := by
  have hM : t * (b + 1) ≤ 4294967296 * 1000 := Int.mul_le_mul ht' (by omega) (by omega) (by omega)
  obtain ⟨M, eM⟩ : ∃ M, t * (b + 1) = M := ⟨_, rfl⟩
  rw [eM] at hM hm ⊢
  have e1 : fil K (oA K a M f) (oB K a) a M = f := by rw [of_fil hK h0 (by omega) (by omega) hf hm (by omega) (by omega)]; unfold usub; omega
  rw [e1]
  rw [of_dok hK h0 (by omega) (by omega) hf hm (by omega) (by omega), of_dok hK h0 (by omega) (by omega) hf hm (by omega) (by omega)]
  have e2 : usub M f = M - f := by unfold usub; omega
  have e3 : usub f (a - a) = f := by unfold usub; omega
  rw [e2, e3]
  have hq := Int.mul_ediv_add_emod (M - f) t
  have hr1 := Int.emod_nonneg (M - f) (show t ≠ 0 by omega)
  have hr2 := Int.emod_lt_of_pos (M - f) (show 0 < t by omega)
  have hq0 : 0 ≤ (M - f) / t := Int.ediv_nonneg (by omega) (by omega)
  have hq1 : (M - f) / t ≤ b + 1 := by
    have : (M - f) / t ≤ M / t := Int.ediv_le_ediv (by omega) (by omega)
    have h2 : M / t = b + 1 := by rw [← eM]; exact Int.mul_ediv_cancel_left _ (by omega)
    omega
  obtain ⟨q, eq⟩ : ∃ q, (M - f) / t = q := ⟨_, rfl⟩
  rw [eq] at hq hq0 hq1 ⊢
  have e4 : q * t = t * q := Int.mul_comm _ _
  have e5 : (q + 1) * t = t * q + t := by rw [Int.add_mul, e4]; omega
  rw [e4, e5]
  refine ⟨hq0, hq1, ?_, ?_⟩
  · rw [decide_eq_true_iff]; omega
  · rw [decide_eq_false_iff_not]; omega

theorem wait_plain {K a m f v : Int} (hK : Kin K) (h0 : 0 ≤ a) (ha : a ≤ 4611686018427387903) (hf : 0 ≤ f) (hm : f ≤ m) (hm' : m ≤ 4611686018427387903) (hv : 0 ≤ v) :
    (wOk K (oA K a m f) (oB K a) a m v = false ∧ wD K (oA K a m f) (oB K a) a m v = 0 ∧ dok K (oA K a m f) (oB K a) a m v = decide (v ≤ m)) ∨
    (wOk K (oA K a m f) (oB K a) a m v = true ∧ wD K (oA K a m f) (oB K a) a m v = f - (m - v) ∧ dok K (oA K a m f) (oB K a) a m v = false ∧ 0 < f - (m - v) ∧ f - (m - v) ≤ m ∧
      dok K (oA K a m f) (oB K a) (a + (f - (m - v))) m v = true ∧ dok K (oA K a m f) (oB K a) (a + (f - (m - v)) - 1) m v = false) := by
  have e1 : fil K (oA K a m f) (oB K a) a m = f := by rw [of_fil hK h0 (by omega) (by omega) hf hm (by omega) (by omega)]; unfold usub; omega
  have e2 : usub f (a - a) = f := by unfold usub; omega
  unfold wOk wD
  rw [e1]
  by_cases h1 : v > m
  · left
    rw [if_pos h1, if_pos h1, of_dok hK h0 (by omega) (by omega) hf hm (by omega) (by omega), e2]
    refine ⟨rfl, rfl, ?_⟩
    rw [decide_eq_decide]; omega
  · rw [if_neg h1, if_neg h1]
    by_cases h2 : f + v ≤ m
    · left
      have hfit : fits f v m = true := decide_eq_true h2
      rw [hfit, if_pos rfl, of_dok hK h0 (by omega) (by omega) hf hm (by omega) (by omega), e2]
      refine ⟨rfl, rfl, ?_⟩
      rw [decide_eq_decide]; omega
    · right
      have hfit : fits f v m = false := decide_eq_false h2
      rw [hfit, if_neg (by simp), of_dok hK h0 (by omega) (by omega) hf hm (by omega) (by omega), of_dok hK h0 (by omega) (by omega) hf hm (by omega) (by omega), of_dok hK h0 (by omega) (by omega) hf hm (by omega) (by omega), e2]
      refine ⟨rfl, rfl, ?_, by omega, by omega, ?_, ?_⟩
      · rw [decide_eq_false_iff_not]; omega
      · rw [decide_eq_true_iff]; unfold usub; omega
      · rw [decide_eq_false_iff_not]; unfold usub; omega

theorem move_plain {K T V a m f d : Int} (hK : Kin K) (hT : Kin T) (hV : Kin V) (h0 : 0 ≤ a) (ha : a ≤ 4611686018427387903) (hf : 0 ≤ f) (hm : f ≤ m) (hm' : m ≤ 4611686018427387903) (hd : 0 ≤ d) (hd' : d ≤ 4294967295) :
    fil K (oA K a m f) (oB K a) a m = f ∧ mK K T = T ∧ mE K T = 0 ∧ mK T V = V ∧ mE T V = 0 ∧ mA K (oA K a m f) (oB K a) T (a + d) m = oA T (a + d) m (usub f d) ∧ mB K T (a + d) = oB T (a + d) ∧
    mA T (oA T (a + d) m (usub f d)) (oB T (a + d)) V (a + d) m = oA V (a + d) m (usub f d) ∧ mB T V (a + d) = oB V (a + d) ∧
    fil K (oA K a m f) (oB K a) (a + d) m = usub f d ∧ fil T (oA T (a + d) m (usub f d)) (oB T (a + d)) (a + d) m = usub f d ∧
    fil K (oA K a m f) (oB K a) (a + 2 * d) m = usub f (2 * d) ∧ fil V (oA V (a + d) m (usub f d)) (oB V (a + d)) (a + 2 * d) m = usub f (2 * d) := by
  have hu : 0 ≤ usub f d ∧ usub f d ≤ f := by unfold usub; omega
  have e1 : fil K (oA K a m f) (oB K a) a m = f := by rw [of_fil hK h0 (by omega) (by omega) hf hm (by omega) (by omega)]; unfold usub; omega
  have e2 : fil K (oA K a m f) (oB K a) (a + d) m = usub f d := by rw [of_fil hK h0 (by omega) (by omega) hf hm (by omega) (by omega)]; congr 1; omega
  have e3 : ∀ X, Kin X → fil X (oA X (a + d) m (usub f d)) (oB X (a + d)) (a + d) m = usub f d := fun X hX => by
    rw [of_fil hX (by omega) (by omega) (by omega) (by omega) (by omega) (by omega) (by omega)]; unfold usub; omega
  refine ⟨e1, ?_, ?_, ?_, ?_, ?_, ?_, ?_, ?_, e2, e3 T hT, ?_, ?_⟩
  · unfold mK; rw [if_pos hK.isK, hT.oK]
  · unfold mE; rw [if_pos hK.isK, hT.oE]
  · unfold mK; rw [if_pos hT.isK, hV.oK]
  · unfold mE; rw [if_pos hT.isK, hV.oE]
  · unfold mA; rw [if_pos hK.isK, e2]
  · unfold mB; rw [if_pos hK.isK]
  · unfold mA; rw [if_pos hT.isK, e3 T hT]
  · unfold mB; rw [if_pos hT.isK]
  · rw [of_fil hK h0 (by omega) (by omega) hf hm (by omega) (by omega)]; congr 1; omega
  · rw [of_fil hV (by omega) (by omega) (by omega) (by omega) (by omega) (by omega) (by omega)]; unfold usub; omega

end Go.Proofs.Ytfabgfenelaheaa
