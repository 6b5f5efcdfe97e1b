/- Plain numbers: a state of kind K is, at a time, as full as f; no program in sight. -/
import Derived.Test.YtfabgfenelaheaaSpecKL
set_option linter.unusedVariables false
namespace Go.Proofs.Ytfabgfenelaheaa

/-- A state of kind K (with numbers A, B) is, at the time now, as full as f (and so ever after). -/
def Rep (K A B now m f : Int) : Prop :=
  U A ∧ U B ∧ 0 ≤ f ∧ f ≤ m ∧
  ((K = 1 ∧ (A = now + f ∨ (A ≤ now ∧ f = 0))) ∨ (K = 2 ∧ B ≤ now ∧ A ≤ m ∧ min (A + (now - B)) m = m - f) ∨ (K = 3 ∧ B ≤ now ∧ f = max (A - (now - B)) 0))

theorem Rep.kin {K A B now m f : Int} (h : Rep K A B now m f) : Kin K := by
  obtain ⟨_, _, _, _, ⟨h, _⟩ | ⟨h, _⟩ | ⟨h, _⟩⟩ := h <;> simp [Kin, h]

/-- times and caps are small -/
def Sml (now m : Int) : Prop := 0 ≤ now ∧ now ≤ 9223372036854775807 ∧ 0 ≤ m ∧ m ≤ 4611686018427387904

theorem rep_of {K now m f : Int} (hK : Kin K) (h : Sml now m) (h0 : 0 ≤ f) (hf : f ≤ m) : Rep K (oA K now m f) (oB K now) now m f := by
  obtain ⟨h1, h2, h3, h4⟩ := h
  rcases hK with rfl | rfl | rfl
  · rw [oA_1, show oB 1 now = 0 from rfl]; unfold Rep U uadd; omega
  · rw [oA_2, show oB 2 now = now from rfl]; unfold Rep U usub; omega
  · rw [oA_3, show oB 3 now = now from rfl]; unfold Rep U; omega

theorem rep_later {K A B now m f d : Int} (h : Rep K A B now m f) (hd : 0 ≤ d) : Rep K A B (now + d) m (usub f d) := by
  obtain ⟨hA, hB, h0, hf, h⟩ := h
  unfold Rep usub
  refine ⟨hA, hB, by omega, by omega, ?_⟩
  rcases h with ⟨h, k⟩ | ⟨h, k⟩ | ⟨h, k⟩
  · exact .inl ⟨h, by omega⟩
  · exact .inr (.inl ⟨h, by omega⟩)
  · exact .inr (.inr ⟨h, by omega⟩)

theorem rep_fil {K A B now m f : Int} (h : Rep K A B now m f) (hs : Sml now m) : fil K A B now m = f := by
  obtain ⟨h1, h2, h3, h4⟩ := hs
  obtain ⟨hA, hB, h0, hf, h⟩ := h
  unfold U at hA hB
  rcases h with ⟨rfl, k⟩ | ⟨rfl, k⟩ | ⟨rfl, k⟩
  · rw [fil_1]; unfold gfil usub; omega
  · rw [fil_2]; unfold bfill tok uadd usub; omega
  · rw [fil_3]; unfold lfil lfill usub; omega

theorem rep_until {K A B now m f : Int} (h : Rep K A B now m f) (hs : Sml now m) : until' K A B now m = if f > 0 then uadd now f else 0 := by
  unfold until'; rw [rep_fil h hs]

theorem rep_ok {K A B now m f v : Int} (h : Rep K A B now m f) (hs : Sml now m) : dok K A B now m v = decide (f + v ≤ m) := by
  obtain ⟨h1, h2, h3, h4⟩ := hs
  obtain ⟨hA, hB, h0, hf, h⟩ := h
  unfold U at hA hB
  rcases h with ⟨rfl, k⟩ | ⟨rfl, k⟩ | ⟨rfl, k⟩
  · rw [dok_1]; unfold gok fits; rw [decide_eq_decide]; omega
  · rw [dok_2]; unfold bok tok uadd usub; rw [decide_eq_decide]; omega
  · rw [dok_3]; unfold lok fits lfill usub; rw [decide_eq_decide]; omega

theorem rep_dec {K A B now m f v : Int} (h : Rep K A B now m f) (hs : Sml now m) (hv : U v) :
    dK K A B now m v = K ∧ Rep K (dA K A B now m v) (dB K A B now m v) now m (if f + v ≤ m then f + v else f) := by
  have h' := h
  obtain ⟨h1, h2, h3, h4⟩ := hs
  obtain ⟨hA, hB, h0, hf, h⟩ := h
  unfold U at hA hB hv
  rcases h with ⟨rfl, k⟩ | ⟨rfl, k⟩ | ⟨rfl, k⟩
  · rw [dK_1, dA_1, dB_1]; unfold gK gA gB
    have hi : (max A now - now + v ≤ m) ↔ f + v ≤ m := by omega
    by_cases hc : f + v ≤ m
    · rw [if_pos (hi.2 hc), if_pos (hi.2 hc), if_pos (hi.2 hc), if_pos hc]
      refine ⟨rfl, ?_⟩
      unfold Rep U uadd; omega
    · rw [if_neg (fun e => hc (hi.1 e)), if_neg (fun e => hc (hi.1 e)), if_neg (fun e => hc (hi.1 e)), if_neg hc]
      exact ⟨rfl, h'⟩
  · rw [dK_2, dA_2, dB_2]; unfold bK bA bB
    have ht : tok A B now m = m - f := by unfold tok uadd usub; omega
    rw [ht]
    have hi : (v ≤ m - f) ↔ f + v ≤ m := by omega
    by_cases hc : f + v ≤ m
    · rw [if_pos (hi.2 hc), if_pos (hi.2 hc), if_pos (hi.2 hc), if_pos hc]
      refine ⟨rfl, ?_⟩
      unfold Rep U; omega
    · rw [if_neg (fun e => hc (hi.1 e)), if_neg (fun e => hc (hi.1 e)), if_neg (fun e => hc (hi.1 e)), if_neg hc]
      exact ⟨rfl, h'⟩
  · rw [dK_3, dA_3, dB_3]; unfold lK lA lB
    have ht : lfill A B now = f := by unfold lfill usub; omega
    rw [ht]
    by_cases hc : f + v ≤ m
    · rw [if_pos hc, if_pos hc, if_pos hc, if_pos hc]
      refine ⟨rfl, ?_⟩
      unfold Rep U; omega
    · rw [if_neg hc, if_neg hc, if_neg hc, if_neg hc]
      exact ⟨rfl, h'⟩

theorem rep_move {K T A B now m f : Int} (h : Rep K A B now m f) (hT : Kin T) (hs : Sml now m) :
    mK K T = T ∧ mE K T = 0 ∧ Rep T (mA K A B T now m) (mB K T now) now m f := by
  have hK := h.kin
  refine ⟨?_, ?_, ?_⟩
  · unfold mK; rw [if_pos hK.isK, hT.oK]
  · unfold mE; rw [if_pos hK.isK, hT.oE]
  · unfold mA mB; rw [if_pos hK.isK, if_pos hK.isK, rep_fil h hs]; exact rep_of hT hs h.2.2.1 h.2.2.2.1

end Go.Proofs.Ytfabgfenelaheaa
