/- The reference's digits. -/
import Derived.Test.YtdgcgpapcbjfhaaGreatDoorProg
import Derived.Test.YtdgcgpapcbjfhaaGreatDoorJ02Bucket
import Derived.WalkKit
import Derived.ScopeJumps
import Derived.WalkMore
import Derived.WalkSpells
import Derived.WalkLawsBesides
import Derived.Laws.OwnMore
import Derived.Maps.AppendAt
import Derived.OwnWalk
import Derived.RegionTactic
import Derived.Deep.RegionHeld3
set_option linter.unusedVariables false
set_option linter.unusedSimpArgs false

/- A scope whose label is come to from above and by jumps: one proof of the part behind the label serves both. -/
namespace Go.Proofs.YtdgcgpapcbjfhaaGreatDoor
open Go.RowKit

theorem wp_scope_both {P : Program} {a : Act} {w : World} {Q : Exit → Act → World → Prop} {c R : Code} (l : Nat) (J : Act → World → Prop) (μ : Act → World → Nat) (hf : findLabel c l = some (.seq .skip R))
    (pass : ∀ a w, J a w → R.wp P (Exit.jump l (fun a' w' => J a' w' ∧ μ a' w' < μ a w) Q) a w)
    (first : (∀ a w, J a w → R.wp P (Exit.jump l J Q) a w) → c.wp P (Exit.jump l J Q) a w) : (Code.scope c).wp P Q a w := by
  refine wp_scope_jumps l J μ hf (first fun a w h => wp_mono (pass a w h) fun e a' w' hq => ?_) fun a w h => ?_
  · cases e with
    | goto t => exact ⟨hq.1, hq.2.1⟩
    | _ => exact hq
  · exact wp_seq (wp_skip (pass a w h))

theorem wp_scope_1t {P : Program} {a : Act} {w : World} {Q : Exit → Act → World → Prop} {c rest : Code} (l : Nat) (hf : findLabel c l = some rest)
    (first : c.wp P (Exit.jump l (fun a' w' => rest.wp P (Exit.noGoto Q) a' w') Q) a w) : (Code.scope c).wp P Q a w :=
  wp_scope_jumps l _ (fun _ _ => 0) hf first fun a' w' h => wp_mono h fun e a'' w'' hq => by
    cases e <;> first | exact hq | exact (hq : False).elim

/-- As Q; by a goto to label l: J; by a goto to label m: D. -/
def jump2 (l m : Nat) (J D : Act → World → Prop) (Q : Exit → Act → World → Prop) : Exit → Act → World → Prop
  | .goto l', a, w => (l' = l ∧ J a w) ∨ (l' = m ∧ D a w)
  | e, a, w => Q e a w

/-- A scope with a label that the run jumps back to, and one that it jumps forward to. -/
theorem wp_scope_two {P : Program} {a : Act} {w : World} {Q : Exit → Act → World → Prop} {c R R2 : Code} (l m : Nat) (J D : Act → World → Prop) (μ : Act → World → Nat)
    (hf : findLabel c l = some (.seq .skip R)) (hm : findLabel c m = some R2)
    (last : ∀ a w, D a w → R2.wp P (Exit.noGoto Q) a w)
    (pass : ∀ a w, J a w → R.wp P (jump2 l m (fun a' w' => J a' w' ∧ μ a' w' < μ a w) D Q) a w)
    (first : (∀ a w, J a w → R.wp P (jump2 l m J D Q) a w) → c.wp P (jump2 l m J D Q) a w) : (Code.scope c).wp P Q a w := by
  intro b k cs
  have hg : gotoIn l (.inScope c :: k) = some (.code (.seq .skip R) :: .inScope c :: k) := by simp [gotoIn, hf]
  have hg2 : gotoIn m (.inScope c :: k) = some (.code R2 :: .inScope c :: k) := by simp [gotoIn, hm]
  have fin : ∀ a w, D a w → ∃ e a' w', Q e a' w' ∧ Arrives P (lone (b.at a (.code R2 :: .inScope c :: k)) cs w) b k cs e a' w' := by
    intro a w hD
    obtain ⟨e, a₁, w₁, hq, harr⟩ := last a w hD b (.inScope c :: k) cs
    cases e with
    | normal => exact ⟨.normal, a₁, w₁, hq, Steps.trans harr (.one step_inScope)⟩
    | exit id => exact ⟨.exit id, a₁, w₁, hq, fun k' hk => harr k' (by simp [exitTo, hk])⟩
    | goto l' => exact (hq : False).elim
    | ret => exact ⟨_, a₁, w₁, hq, harr⟩
    | panic ch => exact ⟨_, a₁, w₁, hq, harr⟩
    | outgrown => exact ⟨_, a₁, w₁, hq, harr⟩
  have key : ∀ n a w, μ a w = n → J a w → ∃ e a' w', Q e a' w' ∧ Arrives P (lone (b.at a (.code (.seq .skip R) :: .inScope c :: k)) cs w) b k cs e a' w' := by
    intro n
    induction n using Nat.strongRecOn with
    | _ n ih =>
      intro a w hn hJ
      obtain ⟨e, a₁, w₁, hq, harr⟩ := wp_seq (wp_skip (pass a w hJ)) b (.inScope c :: k) cs
      cases e with
      | normal => exact ⟨.normal, a₁, w₁, hq, Steps.trans harr (.one step_inScope)⟩
      | exit id => exact ⟨.exit id, a₁, w₁, hq, fun k' hk => harr k' (by simp [exitTo, hk])⟩
      | goto l' =>
        rcases hq with ⟨rfl, hJ', hlt⟩ | ⟨rfl, hD⟩
        · obtain ⟨e₂, a₂, w₂, hq₂, harr₂⟩ := ih _ (by omega) a₁ w₁ rfl hJ'
          exact ⟨e₂, a₂, w₂, hq₂, .of_steps (harr _ hg) harr₂⟩
        · obtain ⟨e₂, a₂, w₂, hq₂, harr₂⟩ := fin a₁ w₁ hD
          exact ⟨e₂, a₂, w₂, hq₂, .of_steps (harr _ hg2) harr₂⟩
      | ret => exact ⟨_, a₁, w₁, hq, harr⟩
      | panic ch => exact ⟨_, a₁, w₁, hq, harr⟩
      | outgrown => exact ⟨_, a₁, w₁, hq, harr⟩
  obtain ⟨e, a₁, w₁, hq, harr⟩ := first (fun a w h => wp_mono (pass a w h) fun e a' w' hq => by
    cases e with
    | goto t => rcases hq with ⟨h1, h2, _⟩ | h
                · exact .inl ⟨h1, h2⟩
                · exact .inr h
    | _ => exact hq) b (.inScope c :: k) cs
  cases e with
  | normal => exact ⟨.normal, a₁, w₁, hq, .head step_scope (Steps.trans harr (.one step_inScope))⟩
  | exit id => exact ⟨.exit id, a₁, w₁, hq, fun k' hk => .head step_scope (harr k' (by simp [exitTo, hk]))⟩
  | goto l' =>
    rcases hq with ⟨rfl, hJ'⟩ | ⟨rfl, hD⟩
    · obtain ⟨e₂, a₂, w₂, hq₂, harr₂⟩ := key _ a₁ w₁ rfl hJ'
      exact ⟨e₂, a₂, w₂, hq₂, .of_steps (.head step_scope (harr _ hg)) harr₂⟩
    · obtain ⟨e₂, a₂, w₂, hq₂, harr₂⟩ := fin a₁ w₁ hD
      exact ⟨e₂, a₂, w₂, hq₂, .of_steps (.head step_scope (harr _ hg2)) harr₂⟩
  | ret => exact ⟨_, a₁, w₁, hq, .of_steps (.one step_scope) harr⟩
  | panic ch => exact ⟨_, a₁, w₁, hq, .of_steps (.one step_scope) harr⟩
  | outgrown => exact ⟨_, a₁, w₁, hq, .of_steps (.one step_scope) harr⟩

end Go.Proofs.YtdgcgpapcbjfhaaGreatDoor

/- digit.Parse and its reference: digits. -/
namespace Go.Proofs.YtdgcgpapcbjfhaaGreatDoor
open Go.RowKit

def bs (s : ByteArray) : List UInt8 := s.data.toList
def digOk (c : UInt8) : Bool := decide (48 ≤ c.toNat) && decide (c.toNat ≤ 57)
def dval (l : List UInt8) : Nat := l.foldl (fun n c => 10 * n + (c.toNat - 48)) 0
def dbad (l : List UInt8) : Bool := l.isEmpty || (decide (l.getD 0 0 = 48) && decide (1 < l.length)) || !l.all digOk
def dE (l : List UInt8) : Int := if dbad l then 10 else if dval l ≤ 18446744073709551615 then 0 else 11
def dV (l : List UInt8) : Int := if dbad l then 0 else if dval l ≤ 18446744073709551615 then dval l else 0

theorem bs_length (s : ByteArray) : (bs s).length = s.size := by show s.data.toList.length = s.data.size; exact Array.length_toList
theorem getD_lt {α : Type} (l : List α) (k : Nat) (z : α) (h : k < l.length) : l.getD k z = l[k] := by simp [List.getD, h]
theorem bs_at (s : ByteArray) (k : Nat) (h : k < s.size) : s[k] = (bs s).getD k 0 := by
  have h' : k < (bs s).length := by rw [bs_length]; exact h
  rw [getD_lt _ _ _ h']; rfl
theorem toList_bs (s : ByteArray) : s.toList = bs s := ByteArray.toList_eq s

theorem dval_snoc (l : List UInt8) (c : UInt8) : dval (l ++ [c]) = 10 * dval l + (c.toNat - 48) := by simp [dval, List.foldl_append]
theorem dval_grows (l r : List UInt8) : dval l ≤ dval (l ++ r) := by
  induction r generalizing l with
  | nil => simp
  | cons c r ih =>
    have h1 := ih (l ++ [c])
    rw [dval_snoc] at h1
    rw [List.append_assoc] at h1
    simp at h1; omega
theorem take_snoc (l : List UInt8) (k : Nat) (h : k < l.length) : l.take (k + 1) = l.take k ++ [l.getD k 0] := by
  rw [List.take_succ_eq_append_getElem h, getD_lt _ _ _ h]

theorem dval_take_succ (l : List UInt8) (k : Nat) (h : k < l.length) : dval (l.take (k + 1)) = 10 * dval (l.take k) + ((l.getD k 0).toNat - 48) := by rw [take_snoc l k h, dval_snoc]
theorem all_take_succ (l : List UInt8) (k : Nat) (h : k < l.length) : (l.take (k + 1)).all digOk = ((l.take k).all digOk && digOk (l.getD k 0)) := by rw [take_snoc l k h]; simp
theorem dbad_of_digit (l : List UInt8) (k : Nat) (h : k < l.length) (hd : digOk (l.getD k 0) = false) : dbad l = true := by
  unfold dbad
  have : l.all digOk = false := by
    rw [Bool.eq_false_iff]; intro hh
    rw [List.all_eq_true] at hh
    have := hh (l.getD k 0) (by rw [getD_lt _ _ _ h]; exact List.getElem_mem h)
    rw [hd] at this; cases this
  rw [this]; simp

def dInv (l : List UInt8) (k : Nat) (n : Int) (big : Bool) : Prop :=
  (l.take k).all digOk = true ∧ (big = true ↔ 18446744073709551615 < dval (l.take k)) ∧ (big = false → n = dval (l.take k)) ∧ 0 ≤ n ∧ n ≤ 18446744073709551615

theorem dStep {l : List UInt8} {k q : Nat} {n n' : Int} {big : Bool} (h : dInv l k n big) (hlk : k < l.length) (hq : (l.getD k 0).toNat = q) (hd : 48 ≤ q ∧ q ≤ 57)
    (hn' : IntKind.u64.wrap (IntKind.u64.wrap (n * 10) + ((q : Int) - 48)) = n') : dInv l (k + 1) n' (big || decide ((18446744073709551615 - ((q : Int) - 48)) / 10 < n)) := by
  obtain ⟨ha, hb, hn, h0, h1⟩ := h
  have hb2 : 0 ≤ n' ∧ n' ≤ 18446744073709551615 := by rw [← hn', IntKind.wrap_u64]; omega
  have hdv := dval_take_succ l k hlk
  rw [hq] at hdv
  have hdg : digOk (l.getD k 0) = true := by unfold digOk; rw [hq]; simp [hd]
  refine ⟨by rw [all_take_succ l k hlk, ha, hdg]; rfl, ?_, ?_, hb2.1, hb2.2⟩
  · rw [hdv]
    cases big
    · have := hn rfl
      have hb' : ¬ 18446744073709551615 < dval (l.take k) := fun hh => by have := hb.2 hh; cases this
      simp; omega
    · have := hb.1 rfl; simp; omega
  · intro hf
    cases big
    · have := hn rfl
      have hb' : ¬ 18446744073709551615 < dval (l.take k) := fun hh => by have := hb.2 hh; cases this
      simp at hf
      rw [hdv, ← hn', IntKind.wrap_u64, IntKind.wrap_u64]; omega
    · simp at hf

theorem dInv_0 (l : List UInt8) : dInv l 0 0 false := ⟨by simp, by simp [dval], by simp [dval], by omega, by omega⟩

theorem dEnd {l : List UInt8} {n : Int} {big : Bool} (h : dInv l l.length n big) (hp : (l.isEmpty || (decide (l.getD 0 0 = 48) && decide (1 < l.length))) = false) :
    dV l = (if big then 0 else n) ∧ dE l = (if big then 11 else 0) := by
  obtain ⟨ha, hb, hn, h0, h1⟩ := h
  rw [List.take_length] at ha hb hn
  have hbad : dbad l = false := by unfold dbad; rw [hp, ha]; rfl
  unfold dV dE
  simp only [hbad, Bool.false_eq_true, if_false]
  cases big
  · have := hn rfl
    have hb' : dval l ≤ 18446744073709551615 := by rcases Nat.lt_or_ge 18446744073709551615 (dval l) with hh | hh; (· have := hb.2 hh; cases this); exact hh
    simp [hb', this]
  · have := hb.1 rfl
    have hb' : ¬ dval l ≤ 18446744073709551615 := by omega
    simp [hb']

theorem dBad {l : List UInt8} (h : dbad l = true) : dV l = 0 ∧ dE l = 10 := by unfold dV dE; simp [h]
theorem ret_dig {a b a' b' : Int} (h : a = a') (h' : b = b') : Ending.returned (.tuple #[.int .u64 a, .int .u16 b]) = .returned (.tuple #[.int .u64 a', .int .u16 b']) := by rw [h, h']

def dPre (l : List UInt8) : Bool := l.isEmpty || (decide (l.getD 0 0 = 48) && decide (1 < l.length))
theorem dbad_of_pre {l : List UInt8} (h : dPre l = true) : dbad l = true := by unfold dbad; unfold dPre at h; rw [h]; rfl

/-- digit.Parse, between two rounds -/
def dJ (s : ByteArray) (w : World) (a' : Act) (w' : World) : Prop := w = w' ∧ ∃ (k : Nat) (n : Int) (big : Bool) (u7 u8 u9 u10 u11 u12 u13 u14 u15 u16 u17 u18 u19 u20 u21 u22 u23 u24 u25 u26 u27 u28 u29 u30 u31 u32 u33 u34 u35 u36 u37 u38 u39 u40 u41 u42 u43 u44 u45 u46 : Value),
  a' = { tmps := #[.string s, undef, .int .u64 0, .int .u16 0, .int .u64 n, .bool big, .int .i64 k, u7, u8, u9, u10, u11, u12, u13, u14, u15, u16, u17, u18, u19, u20, u21, u22, u23, u24, u25, u26, u27, u28, u29, u30, u31, u32, u33, u34, u35, u36, u37, u38, u39, u40, u41, u42, u43, u44, u45, u46], defers := [] } ∧ k < s.size ∧ Hid (dInv (bs s) k n big ∧ dPre (bs s) = false)
def dμ (s : ByteArray) (a' : Act) (_ : World) : Nat := s.size - (match a'.tmps.getD 6 undef with | .int _ q => q.toNat | _ => 0)

set_option maxRecDepth 100000 in
set_option maxHeartbeats 1600000 in
theorem dParseP (s : ByteArray) (hs : s.size ≤ maxLen) (w : World) :
    Calls Tryz.prog 30 #[.string s] w fun e w' => e = .returned (.tuple #[.int .u64 (dV (bs s)), .int .u16 (dE (bs s))]) ∧ w = w' := by
  unfold maxLen at hs
  have hlen := bs_length s
  go_enter Tryz.func30, Tryz.ntmps30
  go_wp2_with fail
  refine wp_scope_both 0 (dJ s w) (dμ s) rfl ?pass ?first
  case first =>
    intro hR
    by_cases he : s.size = 0
    · have hl0 : bs s = [] := List.eq_nil_of_length_eq_zero (by rw [hlen]; exact he)
      have h1 : s.toList.isEmpty = true := by rw [toList_bs, hl0]; rfl
      go_wp2
      simp only [Exit.jump]
      go_ret2
      obtain ⟨e1, e2⟩ := dBad (l := bs s) (dbad_of_pre (by rw [hl0]; rfl))
      exact ⟨ret_dig e1.symm e2.symm, rfl⟩
    · have h0 : 0 < s.size := by omega
      obtain ⟨c, r, hcr⟩ : ∃ c r, bs s = c :: r := by
        cases hb : bs s with
        | nil => rw [hb] at hlen; simp at hlen; omega
        | cons c r => exact ⟨c, r, rfl⟩
      have h1 : s.toList.isEmpty = false := by rw [toList_bs, hcr]; rfl
      obtain ⟨q, hq⟩ : ∃ q : Nat, s[0].toNat = q := ⟨_, rfl⟩
      have hc : c.toNat = q := by rw [← hq, bs_at s 0 h0, hcr]; rfl
      have hz : (decide ((bs s).getD 0 0 = 48)) = decide (q = 48) := by
        rw [hcr, ← hc]; simp [List.getD]
        constructor
        · rintro rfl; rfl
        · intro h; exact UInt8.toNat_inj.1 h
      have hpre : dPre (bs s) = (decide (q = 48) && decide (1 < s.size)) := by unfold dPre; rw [hz, hlen, hcr]; rfl
      have hPR := Lib.hid hpre
      clear hz hc hpre
      by_cases h48 : q = 48
      · by_cases hl : 1 < s.size
        · go_wp2
          simp only [Exit.jump]
          go_ret2
          obtain ⟨e1, e2⟩ := dBad (l := bs s) (dbad_of_pre (by rw [hPR.out]; simp [h48, hl]))
          exact ⟨ret_dig e1.symm e2.symm, rfl⟩
        · go_wp2
          go_step3
          rename_i K hK
          exact hK _ _ (hR _ _ ⟨rfl, 0, 0, false, _, _, _, _, _, _, _, _, _, _, _, _, _, _, _, _, _, _, _, _, _, _, _, _, _, _, _, _, _, _, _, _, _, _, _, _, _, _, _, _, rfl, h0, Lib.hid ⟨dInv_0 _, by rw [hPR.out]; simp [hl]⟩⟩)
      · go_wp2
        go_step3
        rename_i K hK
        exact hK _ _ (hR _ _ ⟨rfl, 0, 0, false, _, _, _, _, _, _, _, _, _, _, _, _, _, _, _, _, _, _, _, _, _, _, _, _, _, _, _, _, _, _, _, _, _, _, _, _, _, _, _, _, rfl, h0, Lib.hid ⟨dInv_0 _, by rw [hPR.out]; simp [h48]⟩⟩)
  case pass =>
    rintro a' w' ⟨rfl, k, n, big, u7, u8, u9, u10, u11, u12, u13, u14, u15, u16, u17, u18, u19, u20, u21, u22, u23, u24, u25, u26, u27, u28, u29, u30, u31, u32, u33, u34, u35, u36, u37, u38, u39, u40, u41, u42, u43, u44, u45, u46, rfl, hk, hI⟩
    obtain ⟨q, hc⟩ : ∃ q : Nat, s[k].toNat = q := ⟨_, rfl⟩
    have hq : q ≤ 255 := by rw [← hc]; exact Nat.le_of_lt_succ (UInt8.toNat_lt _)
    have hat : ((bs s).getD k 0).toNat = q := by rw [← bs_at s k hk]; exact hc
    obtain ⟨hn0, hn1⟩ := hI.out.1.2.2.2
    have hlk : k < (bs s).length := by rw [hlen]; exact hk
    have hdi : digOk ((bs s).getD k 0) = (decide (48 ≤ q) && decide (q ≤ 57)) := by unfold digOk; rw [hat]
    have hall := dbad_of_digit (bs s) k hlk
    rw [hdi] at hall
    have hALL := Lib.hid hall; have hAT := Lib.hid hat
    clear hall hat hdi
    have hw1 : IntKind.u64.wrap (q : Int) = q := by rw [IntKind.wrap_u64]; omega
    by_cases hd : 48 ≤ q ∧ q ≤ 57
    · have hw2 : IntKind.u64.wrap ((q : Int) - 48) = (q : Int) - 48 := by rw [IntKind.wrap_u64]; omega
      obtain ⟨m, hm⟩ : ∃ m, IntKind.u64.wrap (n * 10) = m := ⟨_, rfl⟩
      obtain ⟨n', hn'⟩ : ∃ n', IntKind.u64.wrap (m + ((q : Int) - 48)) = n' := ⟨_, rfl⟩
      have hn2 : 0 ≤ n' ∧ n' ≤ 18446744073709551615 := by rw [← hn', IntKind.wrap_u64]; omega
      have hS := Lib.hid (dStep (n' := n') hI.out.1 hlk hAT.out hd (by rw [hm]; exact hn'))
      have hP := Lib.hid hI.out.2
      by_cases hl : k + 1 < s.size
      · cases big
        · by_cases ho : (18446744073709551615 - ((q : Int) - 48)) / 10 < n
          · go_wp2
            refine wp_goto ⟨rfl, ⟨rfl, k + 1, n', true, _, _, _, _, _, _, _, _, _, _, _, _, _, _, _, _, _, _, _, _, _, _, _, _, _, _, _, _, _, _, _, _, _, _, _, _, _, _, _, _, rfl, hl, Lib.hid ⟨?_, hP.out⟩⟩, Nat.sub_lt_sub_left hk (Nat.lt_succ_self k)⟩
            have := hS.out; rw [decide_eq_true ho] at this; exact this
          · go_wp2
            refine wp_goto ⟨rfl, ⟨rfl, k + 1, n', false, _, _, _, _, _, _, _, _, _, _, _, _, _, _, _, _, _, _, _, _, _, _, _, _, _, _, _, _, _, _, _, _, _, _, _, _, _, _, _, _, rfl, hl, Lib.hid ⟨?_, hP.out⟩⟩, Nat.sub_lt_sub_left hk (Nat.lt_succ_self k)⟩
            have := hS.out; rw [decide_eq_false (Int.not_lt.2 ho)] at this; exact this
        · go_wp2
          refine wp_goto ⟨rfl, ⟨rfl, k + 1, n', true, _, _, _, _, _, _, _, _, _, _, _, _, _, _, _, _, _, _, _, _, _, _, _, _, _, _, _, _, _, _, _, _, _, _, _, _, _, _, _, _, rfl, hl, Lib.hid ⟨hS.out, hP.out⟩⟩, Nat.sub_lt_sub_left hk (Nat.lt_succ_self k)⟩
      · have hke : k + 1 = (bs s).length := by rw [hlen]; omega
        have hE := hS.out
        rw [hke] at hE
        have hE' := Lib.hid (dEnd hE hP.out)
        clear hE hke
        cases big
        · by_cases ho : (18446744073709551615 - ((q : Int) - 48)) / 10 < n
          · go_wp2
            simp only [Exit.jump]
            go_ret2
            obtain ⟨e1, e2⟩ := hE'.out
            rw [decide_eq_true ho] at e1 e2
            exact ⟨ret_dig e1.symm e2.symm, rfl⟩
          · go_wp2
            simp only [Exit.jump]
            go_ret2
            obtain ⟨e1, e2⟩ := hE'.out
            rw [decide_eq_false (Int.not_lt.2 ho)] at e1 e2
            exact ⟨ret_dig e1.symm e2.symm, rfl⟩
        · go_wp2
          simp only [Exit.jump]
          go_ret2
          obtain ⟨e1, e2⟩ := hE'.out
          exact ⟨ret_dig e1.symm e2.symm, rfl⟩
    · have hw2 : 10 ≤ IntKind.u64.wrap ((q : Int) - 48) := by rw [IntKind.wrap_u64]; omega
      go_wp2
      simp only [Exit.jump]
      go_ret2
      obtain ⟨e1, e2⟩ := dBad (hALL.out (by rw [Bool.and_eq_false_iff]; simp; omega))
      exact ⟨ret_dig e1.symm e2.symm, rfl⟩

end Go.Proofs.YtdgcgpapcbjfhaaGreatDoor

/- Rows that the call owns. -/
namespace Go.Proofs.YtdgcgpapcbjfhaaGreatDoor
open Go.RowKit

theorem own_cells {w : World} {base n : Nat} {e : TypeId} {v : Value} {xs : List Value} (h : w.ownsRow base e 1 v n xs) (hn : 0 < n) :
    ∃ g cp, v = .slice (some ⟨g, 0, none⟩) n cp ∧ n ≤ cp ∧ cp ≤ maxLen ∧ ∀ i, i < n → w.cell? ⟨g, i, none⟩ = some (xs.getD i undef) := by
  obtain ⟨hl, h2 | ⟨g, cp, cur, hv, hg, hh, hnc, hcm, hsz, htake⟩⟩ := h
  · omega
  · subst hv
    refine ⟨g, cp, rfl, hnc, hcm, fun i hi => ?_⟩
    have h' : w.ownsRow base e 1 (.slice (some ⟨g, 0, none⟩) n cp) n xs := ⟨hl, .inr ⟨g, cp, cur, rfl, hg, hh, hnc, hcm, hsz, htake⟩⟩
    have := h'.cellAt i (by omega)
    rw [this]
    have hi' : i < xs.length := by omega
    simp [List.getD, hi']

theorem ext_grown {w wr w1 : World} {e : TypeId} {size n : Nat} {v : Value} {xs : List Value} {o : Obj} (h : Ext w wr) (hown : wr.ownsRow w.heap.size e size v n xs) (hg : (wr.alloc o).grownBy w1 v.ownBlock) : Ext w w1 := by
  refine Below.grown (h.alloc o) hg (h.alloc o).size ?_
  intro k hk
  obtain ⟨_, h2 | ⟨g, cap, cur, hv, hge, _⟩⟩ := hown
  · rw [h2.1] at hk; cases hk
  · rw [hv] at hk; simp [Value.ownBlock] at hk; omega

end Go.Proofs.YtdgcgpapcbjfhaaGreatDoor

/- The reference's digits. -/
namespace Go.Proofs.YtdgcgpapcbjfhaaGreatDoor
open Go.RowKit

theorem ret_digr {a b a' b' : Int} (h : a = a') (h' : b = b') : Ending.returned (.tuple #[.int .u64 a, .int .i64 b]) = .returned (.tuple #[.int .u64 a', .int .i64 b']) := by rw [h, h']

theorem dbad_of_all {l : List UInt8} (h : l.all digOk = true) (hp : dPre l = false) : dbad l = false := by unfold dbad; unfold dPre at hp; rw [hp, h]; rfl

set_option maxRecDepth 100000 in
set_option maxHeartbeats 1600000 in
theorem rParse (s : ByteArray) (hs : s.size ≤ maxLen) (w : World) :
    Calls Tryz.prog 32 #[.string s] w fun e w' => e = .returned (.tuple #[.int .u64 (dV (bs s)), .int .i64 (dE (bs s))]) ∧ w = w' := by
  unfold maxLen at hs
  have hlen := bs_length s
  by_cases he : s.size = 0
  · have hl0 : bs s = [] := List.eq_nil_of_length_eq_zero (by rw [hlen]; exact he)
    obtain ⟨e1, e2⟩ := dBad (l := bs s) (dbad_of_pre (by rw [hl0]; rfl))
    have E := Lib.hid (And.intro e1 e2); clear e1 e2
    go_enter Tryz.func32, Tryz.ntmps32
    go_wp2
    go_ret2
    exact ⟨ret_digr E.out.1.symm E.out.2.symm, rfl⟩
  have h0 : 0 < s.size := by omega
  obtain ⟨c, r, hcr⟩ : ∃ c r, bs s = c :: r := by
    cases hb : bs s with
    | nil => rw [hb] at hlen; simp at hlen; omega
    | cons c r => exact ⟨c, r, rfl⟩
  obtain ⟨q, hq⟩ : ∃ q : Nat, s[0].toNat = q := ⟨_, rfl⟩
  have hc : c.toNat = q := by rw [← hq, bs_at s 0 h0, hcr]; rfl
  have hz : (decide ((bs s).getD 0 0 = 48)) = decide (q = 48) := by
    rw [hcr, ← hc]; simp [List.getD]
    constructor
    · rintro rfl; rfl
    · intro h; exact UInt8.toNat_inj.1 h
  have hpre : dPre (bs s) = (decide (q = 48) && decide (1 < s.size)) := by unfold dPre; rw [hz, hlen, hcr]; rfl
  clear hz hc
  by_cases hbad : 1 < s.size ∧ q = 48
  · obtain ⟨hb1, hb2⟩ := hbad
    obtain ⟨e1, e2⟩ := dBad (l := bs s) (dbad_of_pre (by rw [hpre]; simp [hb1, hb2]))
    have E := Lib.hid (And.intro e1 e2); clear e1 e2 hpre hcr
    go_enter Tryz.func32, Tryz.ntmps32
    go_wp2
    go_ret2
    exact ⟨ret_digr E.out.1.symm E.out.2.symm, rfl⟩
  have hP : Hid (dPre (bs s) = false) := Lib.hid (by rw [hpre]; simp; omega)
  have hfirst : Hid (∀ k, k < s.size → True) := Lib.hid (fun _ _ => trivial)
  clear hpre hcr
  have htest : 1 < s.size → ¬ q = 48 := fun h hh => hbad ⟨h, hh⟩
  clear hbad
  by_cases h1 : 1 < s.size
  all_goals
    have hne := htest
    clear htest
    first | (have hne' : ((q : Int) == 48) = false := beq_eq_false_iff_ne.2 (by have := hne h1; omega)) | skip
    have hs0 : ((s.size : Int) == 0) = false := beq_eq_false_iff_ne.2 (by omega)
    clear hne
    go_enter Tryz.func32, Tryz.ntmps32
    go_wp2
    go_loop [4] (fun i => ∃ k : Nat, k ≤ s.size ∧ i = .int .i64 k ∧ Hid (((bs s).take k).all digOk = true)) (fun i => s.size - (intOf i).toNat)
    case atStart => exact ⟨0, Nat.zero_le _, rfl, Lib.hid (by simp)⟩
    case round =>
      obtain ⟨k, hk, rfl, hall⟩ := hrel
      by_cases hlt : k < s.size
      · obtain ⟨p, hp⟩ : ∃ p : Nat, s[k].toNat = p := ⟨_, rfl⟩
        have hlk : k < (bs s).length := by rw [hlen]; exact hlt
        have hat : digOk ((bs s).getD k 0) = (decide (48 ≤ p) && decide (p ≤ 57)) := by unfold digOk; rw [← bs_at s k hlt, hp]
        have hA := Lib.hid hat; clear hat
        by_cases hd1 : p < 48
        · go_wp2
          go_ret2
          obtain ⟨e1, e2⟩ := dBad (dbad_of_digit (bs s) k hlk (by rw [hA.out]; simp; omega))
          exact ⟨ret_digr e1.symm e2.symm, rfl⟩
        by_cases hd2 : 57 < p
        · go_wp2
          go_ret2
          obtain ⟨e1, e2⟩ := dBad (dbad_of_digit (bs s) k hlk (by rw [hA.out]; simp; omega))
          exact ⟨ret_digr e1.symm e2.symm, rfl⟩
        go_wp2
        go_round
        case rel => exact ⟨k + 1, by omega, by go_num, Lib.hid (by rw [all_take_succ _ _ hlk, hall.out, hA.out]; simp; omega)⟩
        case measure => simp [intOf]; omega
      · obtain rfl : k = s.size := by omega
        have hB := Lib.hid (dbad_of_all (by have := hall.out; rw [← hlen, List.take_length] at this; exact this) hP.out)
        go_wp2
        go_loop [5, 6] (fun n i => ∃ k : Nat, k ≤ s.size ∧ n = .int .u64 (dval ((bs s).take k)) ∧ i = .int .i64 k ∧ dval ((bs s).take k) ≤ 18446744073709551615) (fun _ i => s.size - (intOf i).toNat)
        case atStart => exact ⟨0, Nat.zero_le _, rfl, rfl, by simp [dval]⟩
        case round =>
          obtain ⟨k, hk, rfl, rfl, hv⟩ := hrel
          by_cases hlt : k < s.size
          · obtain ⟨p, hp⟩ : ∃ p : Nat, s[k].toNat = p := ⟨_, rfl⟩
            have hlk : k < (bs s).length := by rw [hlen]; exact hlt
            have hat : ((bs s).getD k 0).toNat = p := by rw [← bs_at s k hlt]; exact hp
            have hdg : 48 ≤ p ∧ p ≤ 57 := by
              have h2 : (bs s).all digOk = true := by have := hall.out; rw [← hlen, List.take_length] at this; exact this
              rw [List.all_eq_true] at h2
              have := h2 ((bs s).getD k 0) (by rw [getD_lt _ _ _ hlk]; exact List.getElem_mem hlk)
              unfold digOk at this; rw [hat] at this; simpa using this
            have hdv := dval_take_succ (bs s) k hlk
            have hgr := dval_grows ((bs s).take (k + 1)) ((bs s).drop (k + 1))
            rw [List.take_append_drop] at hgr
            rw [hat] at hdv
            have hG := Lib.hid hgr; have hD := Lib.hid hdv
            clear hgr hdv hat
            obtain ⟨v, hvv⟩ : ∃ v, dval ((bs s).take k) = v := ⟨_, rfl⟩
            rw [hvv] at hv hD ⊢
            have hw1 : IntKind.u8.wrap ((p : Int) - 48) = (p : Int) - 48 := by rw [IntKind.wrap_u8]; omega
            by_cases ho : (18446744073709551615 - ((p : Int) - 48)) / 10 < (v : Int)
            · clear hvv
              go_wp2
              go_ret2
              have hbig : ¬ dval (bs s) ≤ 18446744073709551615 := by have := hG.out; have := hD.out; omega
              refine ⟨ret_digr ?_ ?_, rfl⟩
              · unfold dV; rw [hB.out]; simp [hbig]
              · unfold dE; rw [hB.out]; simp [hbig]
            · clear hvv
              go_wp2
              go_round
              case rel =>
                refine ⟨k + 1, by omega, ?_, by go_num, by rw [hD.out]; omega⟩
                rw [hD.out]; congr 1; omega
              case measure => simp [intOf]; omega
          · obtain rfl : k = s.size := by omega
            rw [← hlen, List.take_length] at hv
            have et : (bs s).take s.size = bs s := by rw [← hlen, List.take_length]
            rw [et]
            clear et
            go_wp2
            go_ret2
            refine ⟨ret_digr ?_ ?_, rfl⟩
            · unfold dV; rw [hB.out]; simp [hv]
            · unfold dE; rw [hB.out]; simp [hv]

end Go.Proofs.YtdgcgpapcbjfhaaGreatDoor
