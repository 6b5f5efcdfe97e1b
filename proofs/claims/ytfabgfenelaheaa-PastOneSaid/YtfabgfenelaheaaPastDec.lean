/- past.Decide, and the document's: the history then. -/
import Derived.Test.YtfabgfenelaheaaPastProg
set_option linter.unusedVariables false
namespace Go.Proofs.Ytfabgfenelaheaa
open Go.RowKit

attribute [local go_sem] ite_min ite_max

theorem own_snoc {w : World} {base : Nat} {v' : Value} {L : List (Int × Int)} {x y : Int} (h : w.ownsRow base 29 2 v' (L.length + 1) (flat L ++ [.int .u64 x, .int .u64 y])) : OwnEv w base v' (L ++ [(x, y)]) := by
  unfold OwnEv
  rw [flat_append, List.length_append]
  exact h

theorem OwnEv.ev' {w : World} {base : Nat} {a : Option Addr} {n cap : Nat} {L : List (Int × Int)} (h : OwnEv w base (.slice a n cap) L) (hU : UL L) : IsEv w a n cap L := by
  obtain ⟨a', c', e, hi, _⟩ := h.ev hU
  cases e; exact hi

theorem two_news {w : World} {b : Nat} {x y : Int} (h0 : w.cell? ⟨b, 0, none⟩ = some (.int .u64 x)) (h1 : w.cell? ⟨b, 1, none⟩ = some (.int .u64 y)) :
    ∀ j u, [Value.int .u64 x, Value.int .u64 y][j]? = some u → w.cell? ((⟨b, 0, none⟩ : Addr).add j) = some u := by
  intro j u hj
  rcases j with _ | _ | j
  · simp at hj; subst hj; simpa [Addr.add] using h0
  · simp at hj; subst hj; simpa [Addr.add] using h1
  · simp at hj

theorem two_one {x y : Int} : ∀ u ∈ [Value.int .u64 x, Value.int .u64 y], u.oneCell' = true := by
  intro u hu; simp at hu; rcases hu with rfl | rfl <;> rfl

theorem two_frame {x y : Int} {w : World} {t : TypeId} : (w.alloc (.cells #[.int .u64 x, .int .u64 y] t)).cell? ⟨w.heap.size, 0, none⟩ = some (.int .u64 x) ∧ (w.alloc (.cells #[.int .u64 x, .int .u64 y] t)).cell? ⟨w.heap.size, 1, none⟩ = some (.int .u64 y) := by
  constructor <;> go_simp

set_option maxRecDepth 20000 in
set_option maxHeartbeats 1000000 in
theorem pDecide (a : Option Addr) (len cap : Nat) (L : List (Int × Int)) (now c v : Int) (hn : U now) (hc : U c) (hv : U v) (w : World) (hI : IsEv w a len cap L) (h64 : len ≤ 100) :
    Calls Try.prog 20 #[.slice a len cap, .int .u64 now, .int .u64 c, .int .u64 v] w fun e w' =>
      ∃ v', e = .returned (.tuple #[v', .bool (pconf (L ++ [(now, v)]) c)]) ∧ OwnEv w' w.heap.size v' (if pconf (L ++ [(now, v)]) c then L ++ [(now, v)] else L) ∧ Ext w w' := by
  obtain ⟨i0, hi, hz0, hz1, hz2⟩ := info_parts infoE
  obtain rfl := hI.1
  have hU := hI.2.2.1
  have hUM := UL.snoc (e := (now, v)) hU hn hv
  obtain ⟨M, eM⟩ : ∃ M, L ++ [(now, v)] = M := ⟨_, rfl⟩
  rw [eM] at hUM ⊢
  have HM := Lib.hid eM
  clear eM
  obtain ⟨B, eB⟩ : ∃ B, pconf M c = B := ⟨_, rfl⟩
  rw [eB]
  have HB := Lib.hid eB
  have HI := Lib.hid hI
  have HU := Lib.hid hU
  have HUM := Lib.hid hUM
  clear eB hI hU hUM
  cases B with
  | true =>
    go_enter Try.func20, Try.ntmps20
    go_wp2_with fail
    refine (pClone a L.length cap L _ HI.out (by omega)).mono ?_
    rintro e w1 ⟨v1, rfl, ho1, hx1⟩
    obtain ⟨a1, c1, rfl, hi1, hf1⟩ := ho1.ev HU.out
    have H1 := Lib.hid hi1
    clear hi1
    go_wp2_with fail
    refine (pClone a1 L.length c1 L _ H1.out (by omega)).mono ?_
    rintro e w2 ⟨v2, rfl, ho2, hx2⟩
    have ho2' := Lib.hid (ho2.base hx1.size)
    have ho2o := Lib.hid ho2
    clear ho2
    go_wp2_with (at_builtin; refine wpList_append_own _ rfl _ _ 22 rfl w.heap.size 29 i0 (.agg #[.int .u64 0, .int .u64 0]) 2 16 Try.underlying22 hi hz0 hz1 hz2 rfl (by decide) v2 L.length (flat L) rfl (ho2'.out.ext ((Ext.refl w2).alloc _)) ⟨w2.heap.size, 0, none⟩ 1 1 [.int .u64 now, .int .u64 v] rfl rfl (two_news two_frame.1 two_frame.2) two_one (by unfold maxLen; omega) (by omega) (by have := hx1.size; have := hx2.size; simp; omega) ?_)
    intro v3 w3 hown hgrow _
    have hx3 : Ext w w3 := ext_own (L := L) (by repeat (first | exact Ext.refl _ | assumption | apply Ext.drew | apply Ext.alloc | (refine Ext.setCell ?_ (by simp <;> omega) _) | refine Ext.trans ?_ (by assumption))) (ho2'.out.ext ((Ext.refl w2).alloc _)) hgrow
    have ho3 := own_snoc hown
    rw [HM.out] at ho3
    have ho3' := Lib.hid ho3
    obtain ⟨a3, c3, rfl, hi3, hf3⟩ := ho3.ev HUM.out
    have H3 := Lib.hid hi3
    clear hi3 ho3 hown hgrow
    go_wp2_with fail
    refine (pConforms a3 M.length c3 M c hc _ H3.out).mono ?_
    rw [HB.out]
    rintro e w4 ⟨rfl, hb4⟩
    go_wp2
    go_ret2
    exact ⟨.slice a3 M.length c3, rfl, ho3'.out.ext hb4, by repeat (first | exact Ext.refl _ | assumption | apply Ext.drew | apply Ext.alloc | (refine Ext.setCell ?_ (by simp <;> omega) _) | refine Ext.trans ?_ (by assumption))⟩
  | false =>
    go_enter Try.func20, Try.ntmps20
    go_wp2_with fail
    refine (pClone a L.length cap L _ HI.out (by omega)).mono ?_
    rintro e w1 ⟨v1, rfl, ho1, hx1⟩
    obtain ⟨a1, c1, rfl, hi1, hf1⟩ := ho1.ev HU.out
    have H1 := Lib.hid hi1
    clear hi1
    go_wp2_with fail
    refine (pClone a1 L.length c1 L _ H1.out (by omega)).mono ?_
    rintro e w2 ⟨v2, rfl, ho2, hx2⟩
    have ho2' := Lib.hid (ho2.base hx1.size)
    have ho2o := Lib.hid ho2
    clear ho2
    go_wp2_with (at_builtin; refine wpList_append_own _ rfl _ _ 22 rfl w.heap.size 29 i0 (.agg #[.int .u64 0, .int .u64 0]) 2 16 Try.underlying22 hi hz0 hz1 hz2 rfl (by decide) v2 L.length (flat L) rfl (ho2'.out.ext ((Ext.refl w2).alloc _)) ⟨w2.heap.size, 0, none⟩ 1 1 [.int .u64 now, .int .u64 v] rfl rfl (two_news two_frame.1 two_frame.2) two_one (by unfold maxLen; omega) (by omega) (by have := hx1.size; have := hx2.size; simp; omega) ?_)
    intro v3 w3 hown hgrow _
    have hx3 : Ext w w3 := ext_own (L := L) (by repeat (first | exact Ext.refl _ | assumption | apply Ext.drew | apply Ext.alloc | (refine Ext.setCell ?_ (by simp <;> omega) _) | refine Ext.trans ?_ (by assumption))) (ho2'.out.ext ((Ext.refl w2).alloc _)) hgrow
    have HX := Lib.hid (ext_own (L := L) (w := w1) (wr := w2.alloc _) (by repeat (first | exact Ext.refl _ | assumption | apply Ext.drew | apply Ext.alloc | (refine Ext.setCell ?_ (by simp <;> omega) _) | refine Ext.trans ?_ (by assumption))) (ho2o.out.ext ((Ext.refl w2).alloc _)) hgrow)
    have ho3 := own_snoc hown
    rw [HM.out] at ho3
    have ho3' := Lib.hid ho3
    obtain ⟨a3, c3, rfl, hi3, hf3⟩ := ho3.ev HUM.out
    have H3 := Lib.hid hi3
    clear hi3 ho3 hown hgrow
    go_wp2_with fail
    refine (pConforms a3 M.length c3 M c hc _ H3.out).mono ?_
    rw [HB.out]
    rintro e w4 ⟨rfl, hb4⟩
    go_wp2
    go_ret2
    exact ⟨.slice a1 L.length c1, rfl, ho1.ext (HX.out.trans hb4), by repeat (first | exact Ext.refl _ | assumption | apply Ext.drew | apply Ext.alloc | (refine Ext.setCell ?_ (by simp <;> omega) _) | refine Ext.trans ?_ (by assumption))⟩

theorem wpList_append_nn {ops : Array Oper} {rest : List Oper} {o : Oper} {a : Act} {w : World} {Q : Exit → Act → World → Prop} (hgd : o.guard = none) (s x : Operand)
    (ho : o.op = .call { callee := .builtin .append, args := #[s, x], argTypes := #[22, 22] }) (hs : a.eval s = .slice none 0 0) (hx : a.eval x = .slice none 0 0)
    (h : wpList Try.prog ops Q rest (a.put o.dst (.slice none 0 0)) w) : wpList Try.prog ops Q (o :: rest) a w := by
  obtain ⟨i0, hi, hz0, hz1, hz2⟩ := info_parts infoE
  refine wpList_plain hgd fun K hK => ?_
  have hr : (Builtin.append_ #[22, 22] o.type #[.slice none 0 0, .slice none 0 0]).run Try.prog w = .ok (.slice none 0 0) w := by
    simp [Builtin.append_, run_underlying Try.underlying22, sizeOf, typeInfo, hi, Builtin.lenOf, Builtin.firstCells]
  unfold Oper.wp execOp
  simp only [ho, resolve, invoke, builtin, Sem.run_bind, Sem.run_pure, Result.andThen_ok, List.map_toArray, List.map_cons, List.map_nil, hs, hx, hr]
  exact hK _ _ h

set_option maxRecDepth 20000 in
set_option maxHeartbeats 1000000 in
theorem rDecide (a : Option Addr) (len cap : Nat) (L : List (Int × Int)) (now c v : Int) (hn : U now) (hc : U c) (hv : U v) (w : World) (hI : IsEv w a len cap L) (h64 : len ≤ 100) :
    Calls Try.prog 41 #[.slice a len cap, .int .u64 now, .int .u64 c, .int .u64 v] w fun e w' =>
      ∃ a' len' cap', e = .returned (.tuple #[.slice a' len' cap', .bool (pconf (L ++ [(now, v)]) c)]) ∧ IsEv w' a' len' cap' (if pconf (L ++ [(now, v)]) c then L ++ [(now, v)] else L) ∧ Ext w w' := by
  obtain ⟨i0, hi, hz0, hz1, hz2⟩ := info_parts infoE
  obtain rfl := hI.1
  have hU := hI.2.2.1
  have hUM := UL.snoc (e := (now, v)) hU hn hv
  obtain ⟨M, eM⟩ : ∃ M, L ++ [(now, v)] = M := ⟨_, rfl⟩
  rw [eM] at hUM ⊢
  have HM := Lib.hid eM
  clear eM
  obtain ⟨B, eB⟩ : ∃ B, pconf M c = B := ⟨_, rfl⟩
  rw [eB]
  have HB := Lib.hid eB
  have HU := Lib.hid hU
  have HUM := Lib.hid hUM
  have HI := Lib.hid hI
  clear eB hU hUM
  cases a with
  | none =>
    have hcap := hI.2.1.2.2 rfl
    have hl : L.length = 0 := by have := hI.2.1.1; omega
    have hL : L = [] := List.eq_nil_of_length_eq_zero hl
    clear hI
    subst hL
    subst hcap
    have hown0 : OwnEv w w.heap.size (.slice none 0 0) [] := OwnEv.nil _ _
    cases B with
    | true =>
      go_enter Try.func41, Try.ntmps41
      go_wp2_with (at_builtin; first | refine wpList_append_nn rfl _ _ rfl rfl rfl ?_ | refine wpList_append_own _ rfl _ _ 22 rfl w.heap.size 29 i0 (.agg #[.int .u64 0, .int .u64 0]) 2 16 Try.underlying22 hi hz0 hz1 hz2 rfl (by decide) (.slice none 0 0) 0 [] rfl (hown0.ext ((Ext.refl w).alloc _)) ⟨w.heap.size, 0, none⟩ 1 1 [.int .u64 now, .int .u64 v] rfl rfl (two_news two_frame.1 two_frame.2) two_one (by unfold maxLen; omega) (by omega) (by simp) ?_)
      intro v3 w3 hown hgrow _
      have hx3 : Ext w w3 := ext_own (L := []) (by repeat (first | exact Ext.refl _ | assumption | apply Ext.drew | apply Ext.alloc | (refine Ext.setCell ?_ (by simp <;> omega) _) | refine Ext.trans ?_ (by assumption))) (hown0.ext ((Ext.refl w).alloc _)) hgrow
      have ho3 := own_snoc (L := []) hown
      rw [HM.out] at ho3
      have HO := Lib.hid ho3
      obtain ⟨a3, c3, rfl, hi3, hf3⟩ := ho3.ev HUM.out
      have H3 := Lib.hid hi3
      clear hi3 ho3 hown hgrow
      go_wp2_with fail
      refine (rConforms a3 M.length c3 M c hc _ H3.out).mono ?_
      rw [HB.out]
      rintro e w4 ⟨rfl, hb4⟩
      go_wp2
      go_ret2
      exact ⟨a3, M.length, c3, rfl, (HO.out.ext hb4).ev' HUM.out, by repeat (first | exact Ext.refl _ | assumption | apply Ext.drew | apply Ext.alloc | (refine Ext.setCell ?_ (by simp <;> omega) _) | refine Ext.trans ?_ (by assumption))⟩
    | false =>
      go_enter Try.func41, Try.ntmps41
      go_wp2_with (at_builtin; first | refine wpList_append_nn rfl _ _ rfl rfl rfl ?_ | refine wpList_append_own _ rfl _ _ 22 rfl w.heap.size 29 i0 (.agg #[.int .u64 0, .int .u64 0]) 2 16 Try.underlying22 hi hz0 hz1 hz2 rfl (by decide) (.slice none 0 0) 0 [] rfl (hown0.ext ((Ext.refl w).alloc _)) ⟨w.heap.size, 0, none⟩ 1 1 [.int .u64 now, .int .u64 v] rfl rfl (two_news two_frame.1 two_frame.2) two_one (by unfold maxLen; omega) (by omega) (by simp) ?_)
      intro v3 w3 hown hgrow _
      have hx3 : Ext w w3 := ext_own (L := []) (by repeat (first | exact Ext.refl _ | assumption | apply Ext.drew | apply Ext.alloc | (refine Ext.setCell ?_ (by simp <;> omega) _) | refine Ext.trans ?_ (by assumption))) (hown0.ext ((Ext.refl w).alloc _)) hgrow
      have ho3 := own_snoc (L := []) hown
      rw [HM.out] at ho3
      have HO := Lib.hid ho3
      obtain ⟨a3, c3, rfl, hi3, hf3⟩ := ho3.ev HUM.out
      have H3 := Lib.hid hi3
      clear hi3 ho3 hown hgrow
      go_wp2_with fail
      refine (rConforms a3 M.length c3 M c hc _ H3.out).mono ?_
      rw [HB.out]
      rintro e w4 ⟨rfl, hb4⟩
      go_wp2
      go_ret2
      exact ⟨none, 0, 0, rfl, HI.out.below (by repeat (first | exact Ext.refl _ | assumption | apply Ext.drew | apply Ext.alloc | (refine Ext.setCell ?_ (by simp <;> omega) _) | refine Ext.trans ?_ (by assumption))), by repeat (first | exact Ext.refl _ | assumption | apply Ext.drew | apply Ext.alloc | (refine Ext.setCell ?_ (by simp <;> omega) _) | refine Ext.trans ?_ (by assumption))⟩
  | some ad =>
    have hnews : ∀ j u, (flat L)[j]? = some u → w.cell? (ad.add j) = some u := by
      intro j u hu
      have h0 : 0 < L.length := by
        have hj : j < (flat L).length := (List.getElem?_eq_some_iff.1 hu).1
        rw [flat_length] at hj; omega
      obtain ⟨b, off, e, _⟩ := hI.at h0
      cases e
      exact hI.news j u hu
    have HN := Lib.hid hnews
    clear hI hnews
    cases B with
    | true =>
      go_enter Try.func41, Try.ntmps41
      go_wp2_with (at_builtin; refine wpList_append_own _ rfl _ _ 22 rfl w.heap.size 29 i0 (.agg #[.int .u64 0, .int .u64 0]) 2 16 Try.underlying22 hi hz0 hz1 hz2 rfl (by decide) _ 0 [] rfl (OwnEv.nil w w.heap.size) ad L.length cap (flat L) rfl (flat_length L) HN.out (flat_one L) (by unfold maxLen; omega) (by omega) (Nat.le_refl _) ?_)
      intro v2 w2 hown2 hgrow2 _
      have hx2 : Ext w w2 := ext_own (L := []) (Ext.refl w) (OwnEv.nil w w.heap.size) hgrow2
      have ho2 : OwnEv w2 w.heap.size v2 L := by unfold OwnEv; simpa using hown2
      have HO2 := Lib.hid ho2
      clear hown2 hgrow2 ho2
      go_wp2_with (at_builtin; refine wpList_append_own _ rfl _ _ 22 rfl w.heap.size 29 i0 (.agg #[.int .u64 0, .int .u64 0]) 2 16 Try.underlying22 hi hz0 hz1 hz2 rfl (by decide) v2 L.length (flat L) rfl (HO2.out.ext ((Ext.refl w2).alloc _)) ⟨w2.heap.size, 0, none⟩ 1 1 [.int .u64 now, .int .u64 v] rfl rfl (two_news two_frame.1 two_frame.2) two_one (by unfold maxLen; omega) (by omega) (by have := hx2.size; simp; omega) ?_)
      intro v3 w3 hown hgrow _
      have hx3 : Ext w w3 := ext_own (L := L) (by repeat (first | exact Ext.refl _ | assumption | apply Ext.drew | apply Ext.alloc | (refine Ext.setCell ?_ (by simp <;> omega) _) | refine Ext.trans ?_ (by assumption))) (HO2.out.ext ((Ext.refl w2).alloc _)) hgrow
      have ho3 := own_snoc (L := L) hown
      rw [HM.out] at ho3
      have HO := Lib.hid ho3
      obtain ⟨a3, c3, rfl, hi3, hf3⟩ := ho3.ev HUM.out
      have H3 := Lib.hid hi3
      clear hi3 ho3 hown hgrow
      go_wp2_with fail
      refine (rConforms a3 M.length c3 M c hc _ H3.out).mono ?_
      rw [HB.out]
      rintro e w4 ⟨rfl, hb4⟩
      go_wp2
      go_ret2
      exact ⟨a3, M.length, c3, rfl, (HO.out.ext hb4).ev' HUM.out, by repeat (first | exact Ext.refl _ | assumption | apply Ext.drew | apply Ext.alloc | (refine Ext.setCell ?_ (by simp <;> omega) _) | refine Ext.trans ?_ (by assumption))⟩
    | false =>
      go_enter Try.func41, Try.ntmps41
      go_wp2_with (at_builtin; refine wpList_append_own _ rfl _ _ 22 rfl w.heap.size 29 i0 (.agg #[.int .u64 0, .int .u64 0]) 2 16 Try.underlying22 hi hz0 hz1 hz2 rfl (by decide) _ 0 [] rfl (OwnEv.nil w w.heap.size) ad L.length cap (flat L) rfl (flat_length L) HN.out (flat_one L) (by unfold maxLen; omega) (by omega) (Nat.le_refl _) ?_)
      intro v2 w2 hown2 hgrow2 _
      have hx2 : Ext w w2 := ext_own (L := []) (Ext.refl w) (OwnEv.nil w w.heap.size) hgrow2
      have ho2 : OwnEv w2 w.heap.size v2 L := by unfold OwnEv; simpa using hown2
      have HO2 := Lib.hid ho2
      clear hown2 hgrow2 ho2
      go_wp2_with (at_builtin; refine wpList_append_own _ rfl _ _ 22 rfl w.heap.size 29 i0 (.agg #[.int .u64 0, .int .u64 0]) 2 16 Try.underlying22 hi hz0 hz1 hz2 rfl (by decide) v2 L.length (flat L) rfl (HO2.out.ext ((Ext.refl w2).alloc _)) ⟨w2.heap.size, 0, none⟩ 1 1 [.int .u64 now, .int .u64 v] rfl rfl (two_news two_frame.1 two_frame.2) two_one (by unfold maxLen; omega) (by omega) (by have := hx2.size; simp; omega) ?_)
      intro v3 w3 hown hgrow _
      have hx3 : Ext w w3 := ext_own (L := L) (by repeat (first | exact Ext.refl _ | assumption | apply Ext.drew | apply Ext.alloc | (refine Ext.setCell ?_ (by simp <;> omega) _) | refine Ext.trans ?_ (by assumption))) (HO2.out.ext ((Ext.refl w2).alloc _)) hgrow
      have ho3 := own_snoc (L := L) hown
      rw [HM.out] at ho3
      have HO := Lib.hid ho3
      obtain ⟨a3, c3, rfl, hi3, hf3⟩ := ho3.ev HUM.out
      have H3 := Lib.hid hi3
      clear hi3 ho3 hown hgrow
      go_wp2_with fail
      refine (rConforms a3 M.length c3 M c hc _ H3.out).mono ?_
      rw [HB.out]
      rintro e w4 ⟨rfl, hb4⟩
      go_wp2
      go_ret2
      exact ⟨some ad, L.length, cap, rfl, HI.out.below (by repeat (first | exact Ext.refl _ | assumption | apply Ext.drew | apply Ext.alloc | (refine Ext.setCell ?_ (by simp <;> omega) _) | refine Ext.trans ?_ (by assumption))), by repeat (first | exact Ext.refl _ | assumption | apply Ext.drew | apply Ext.alloc | (refine Ext.setCell ?_ (by simp <;> omega) _) | refine Ext.trans ?_ (by assumption))⟩

end Go.Proofs.Ytfabgfenelaheaa
