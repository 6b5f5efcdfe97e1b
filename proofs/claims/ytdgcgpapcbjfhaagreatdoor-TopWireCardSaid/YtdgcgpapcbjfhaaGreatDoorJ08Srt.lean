/- Sorting rules: plain lists, no program in sight. -/
import Derived.Test.YtdgcgpapcbjfhaaGreatDoorJ04Lines
import Derived.Test.YtdgcgpapcbjfhaaGreatDoorJ07NumMore
set_option linter.unusedVariables false
set_option linter.unusedSimpArgs false

/- One rule out of words: plain lists, no program in sight. -/
namespace Go.Proofs.YtdgcgpapcbjfhaaGreatDoor

structure Rl where
  pre : List UInt8
  ev : Int
  bu : Int
  kd : Nat

def Rl0 : Rl := ⟨[], 0, 0, 0⟩

def sGcra : List UInt8 := [103, 99, 114, 97]
def sBucket : List UInt8 := [98, 117, 99, 107, 101, 116]
def sLeaky : List UInt8 := [108, 101, 97, 107, 121]
def sDefault : List UInt8 := [100, 101, 102, 97, 117, 108, 116]
def sRule : List UInt8 := [114, 117, 108, 101]
def sSize : List UInt8 := [115, 105, 122, 101]

def kindN (t : List UInt8) : Nat := if t = sGcra then 1 else if t = sBucket then 2 else if t = sLeaky then 3 else 0

/-- a number that is not 0: the error -/
def numE (t : List UInt8) (none : Int) : Int := if dE t = 0 ∧ dV t = 0 then none else dE t
/-- how many at once: the error -/
def burE (ev : Int) (t : List UInt8) : Int := if numE t 25 = 0 ∧ 4611686018427387904 < umul ev (dV t) then 26 else numE t 25

/-- every, burst, kernel, from word a on -/
def rTail (ws : List (List UInt8)) (a : Nat) (pre : List UInt8) : Rl × Int × Int :=
  if numE (ws.getD a []) 24 ≠ 0 then (Rl0, numE (ws.getD a []) 24, a)
  else if burE (dV (ws.getD a [])) (ws.getD (a + 1) []) ≠ 0 then (Rl0, burE (dV (ws.getD a [])) (ws.getD (a + 1) []), (a + 1 : Nat))
  else if kindN (ws.getD (a + 2) []) = 0 then (Rl0, 27, (a + 2 : Nat))
  else (⟨pre, dV (ws.getD a []), dV (ws.getD (a + 1) []), kindN (ws.getD (a + 2) [])⟩, 0, 0)

/-- a line's words: the rule; the error; at which word -/
def rpar (ws : List (List UInt8)) : Rl × Int × Int :=
  if ws.length = 4 ∧ ws.getD 0 [] = sDefault then rTail ws 1 []
  else if ws.length = 5 ∧ ws.getD 0 [] = sRule then (if kRight (ws.getD 1 []) then rTail ws 2 (ws.getD 1 []) else (Rl0, 23, 1))
  else (Rl0, 22, 0)

theorem dE_u16 (t : List UInt8) : dE t = 0 ∨ dE t = 10 ∨ dE t = 11 := by unfold dE; (repeat' split) <;> simp
theorem dV_U (t : List UInt8) : U (dV t) := by
  unfold dV U
  (repeat' split) <;> omega

theorem umul_U {a b : Int} (ha : U a) (hb : U b) : U (umul a b) := by
  unfold umul
  split
  · exact mulL_U ha hb
  · exact ⟨by omega, by omega⟩

end Go.Proofs.YtdgcgpapcbjfhaaGreatDoor

/- A text of rules: plain lists, no program in sight. -/
namespace Go.Proofs.YtdgcgpapcbjfhaaGreatDoor

structure Pl where
  most : Nat
  rules : List Rl
def Pl0 : Pl := ⟨0, []⟩

def hasP (rs : List Rl) (p : List UInt8) : Bool := rs.any fun r => decide (r.pre = p)

/-- a line's words: the policy; the error; at which word -/
def cOne (p : Pl) (ts : List (List UInt8)) : Pl × Int × Int :=
  if ts.getD 0 [] = sSize then
    (if ts.length ≠ 2 then (p, 22, 0) else if 0 < p.most then (p, 28, 0) else if dE (ts.getD 1 []) ≠ 0 then (p, dE (ts.getD 1 []), 1)
     else if dV (ts.getD 1 []) < 1 ∨ 1000000 < dV (ts.getD 1 []) then (p, 29, 1) else (⟨(dV (ts.getD 1 [])).toNat, p.rules⟩, 0, 0))
  else if (rpar ts).2.1 ≠ 0 then (p, (rpar ts).2.1, (rpar ts).2.2)
  else if hasP p.rules (rpar ts).1.pre then (p, 28, if (rpar ts).1.pre = [] then 0 else 1)
  else if 1000 ≤ p.rules.length then (p, 32, 0)
  else (⟨p.most, p.rules ++ [(rpar ts).1]⟩, 0, 0)

def txts (l : List Wd) : List (List UInt8) := l.map (·.txt)

/-- all lines: the policy; the error, and where it is -/
def cFold : Pl → List (List Wd) → Pl × Int × Int × Int
  | p, [] => (p, 0, 0, 0)
  | p, l :: ls => if (cOne p (txts l)).2.1 ≠ 0 then (Pl0, (cOne p (txts l)).2.1, ((l.getD (cOne p (txts l)).2.2.toNat ⟨[], 0, 0⟩).ln : Int), ((l.getD (cOne p (txts l)).2.2.toNat ⟨[], 0, 0⟩).col : Int))
    else cFold (cOne p (txts l)).1 ls

/-- is one text less? -/
def lessB : List UInt8 → List UInt8 → Bool
  | _, [] => false
  | [], _ :: _ => true
  | a :: xs, b :: ys => if a = b then lessB xs ys else decide (a.toNat < b.toNat)

/-- where a rule goes in, sought from the end -/
def posA (r : Rl) (l : List Rl) : Nat → Nat
  | 0 => 0
  | a + 1 => if lessB r.pre (l.getD a Rl0).pre then posA r l a else a + 1
def insA (r : Rl) (l : List Rl) : List Rl := l.take (posA r l l.length) ++ r :: l.drop (posA r l l.length)
def sortR (rs : List Rl) : List Rl := rs.foldl (fun l r => insA r l) []

theorem posA_le (r : Rl) (l : List Rl) : ∀ n, posA r l n ≤ n
  | 0 => Nat.le_refl _
  | n + 1 => by
    unfold posA; split
    · have := posA_le r l n; omega
    · exact Nat.le_refl _
theorem insA_len (r : Rl) (l : List Rl) : (insA r l).length = l.length + 1 := by
  have := posA_le r l l.length
  unfold insA; simp; omega
theorem sortR_snoc (rs : List Rl) (r : Rl) : sortR (rs ++ [r]) = insA r (sortR rs) := by unfold sortR; rw [List.foldl_append]; rfl
theorem sortR_len : ∀ (n : Nat) (rs : List Rl), rs.length = n → (sortR rs).length = n
  | 0, rs, h => by rw [List.eq_nil_of_length_eq_zero h]; rfl
  | n + 1, rs, h => by
    have hne : rs ≠ [] := fun e => by rw [e] at h; cases h
    rw [← List.dropLast_concat_getLast hne, sortR_snoc, insA_len, sortR_len n _ (by simp [h])]
theorem insA_mem {r x : Rl} {l : List Rl} (h : x ∈ insA r l) : x = r ∨ x ∈ l := by
  unfold insA at h
  simp at h
  rcases h with h | h | h
  · exact .inr (List.mem_of_mem_take h)
  · exact .inl h
  · exact .inr (List.mem_of_mem_drop h)
theorem sortR_mem : ∀ (n : Nat) (rs : List Rl) (x : Rl), rs.length = n → x ∈ sortR rs → x ∈ rs
  | 0, rs, x, h, hx => by rw [List.eq_nil_of_length_eq_zero h] at hx; simp [sortR] at hx
  | n + 1, rs, x, h, hx => by
    have hne : rs ≠ [] := fun e => by rw [e] at h; cases h
    rw [← List.dropLast_concat_getLast hne, sortR_snoc] at hx
    rcases insA_mem hx with rfl | hx
    · exact List.getLast_mem hne
    · exact List.dropLast_subset _ (sortR_mem n _ x (by simp [h]) hx)

def cFin (q : Pl × Int × Int × Int) : Pl × Int × Int × Int :=
  if q.2.1 ≠ 0 then (Pl0, q.2.1, q.2.2.1, q.2.2.2) else if q.1.most = 0 then (Pl0, 30, 0, 0) else if hasP q.1.rules [] then (⟨q.1.most, sortR q.1.rules⟩, 0, 0, 0) else (Pl0, 31, 0, 0)

def cfg (l : List UInt8) : Pl × Int × Int × Int := if spE l ≠ 0 then (Pl0, spE l, spLn l, spCol l) else cFin (cFold Pl0 (spLines l))

theorem rTail_at (ws : List (List UInt8)) (a : Nat) (pre : List UInt8) (h : a + 2 < ws.length) : 0 ≤ (rTail ws a pre).2.2 ∧ (rTail ws a pre).2.2.toNat < ws.length := by
  unfold rTail
  (repeat' split) <;> simp <;> omega
theorem rpar_at (ws : List (List UInt8)) (h : 0 < ws.length) : 0 ≤ (rpar ws).2.2 ∧ (rpar ws).2.2.toNat < ws.length := by
  unfold rpar
  split
  · exact rTail_at _ _ _ (by omega)
  · split
    · split
      · exact rTail_at _ _ _ (by omega)
      · simp; omega
    · simp; omega
theorem rTail_pre (ws : List (List UInt8)) (a : Nat) (pre : List UInt8) (h : (rTail ws a pre).2.1 = 0) : (rTail ws a pre).1.pre = pre ∧ U (rTail ws a pre).1.ev ∧ U (rTail ws a pre).1.bu ∧ (rTail ws a pre).1.kd ≤ 3 ∧ 1 ≤ (rTail ws a pre).1.kd ∧
    (rTail ws a pre).1.ev ≠ 0 ∧ (rTail ws a pre).1.bu ≠ 0 ∧ umul (rTail ws a pre).1.ev (rTail ws a pre).1.bu ≤ 4611686018427387904 := by
  revert h
  unfold rTail
  split
  · intro h; simp at h; rename_i h2; exact absurd h h2
  · split
    · intro h; simp at h; rename_i h2; exact absurd h h2
    · split
      · intro h; simp at h
      · rename_i h1 h2 h3
        intro _
        have hk : kindN (ws.getD (a + 2) []) ≤ 3 := by unfold kindN; (repeat' split) <;> omega
        have e1 : numE (ws.getD a []) 24 = 0 := by simpa using h1
        have e2 : burE (dV (ws.getD a [])) (ws.getD (a + 1) []) = 0 := by simpa using h2
        have v1 : dV (ws.getD a []) ≠ 0 := by
          intro hv; unfold numE at e1
          split at e1
          · cases e1
          · rename_i h4; exact h4 ⟨e1, hv⟩
        have hn2 : numE (ws.getD (a + 1) []) 25 = 0 ∧ ¬ 4611686018427387904 < umul (dV (ws.getD a [])) (dV (ws.getD (a + 1) [])) := by
          unfold burE at e2
          split at e2
          · cases e2
          · rename_i h4; exact ⟨e2, fun h => h4 ⟨e2, h⟩⟩
        have v2 : dV (ws.getD (a + 1) []) ≠ 0 := by
          intro hv; have := hn2.1; unfold numE at this
          split at this
          · cases this
          · rename_i h4; exact h4 ⟨this, hv⟩
        exact ⟨rfl, dV_U _, dV_U _, hk, Nat.pos_of_ne_zero h3, v1, v2, Int.not_lt.1 hn2.2⟩

/-- a rule that is right -/
def okR (r : Rl) : Prop := (r.pre = [] ∨ kRight r.pre = true) ∧ U r.ev ∧ U r.bu ∧ r.kd ≤ 3 ∧ 1 ≤ r.kd ∧ r.ev ≠ 0 ∧ r.bu ≠ 0 ∧ umul r.ev r.bu ≤ 4611686018427387904
theorem rpar_ok {ws : List (List UInt8)} (h : (rpar ws).2.1 = 0) : okR (rpar ws).1 := by
  revert h
  unfold rpar
  split
  · intro h
    obtain ⟨h1, h2⟩ := rTail_pre _ _ _ h
    exact ⟨.inl h1, h2⟩
  · split
    · split
      · rename_i hk
        intro h
        obtain ⟨h1, h2⟩ := rTail_pre _ _ _ h
        exact ⟨.inr (by rw [h1]; exact hk), h2⟩
      · intro h; simp at h
    · intro h; simp at h

def okP (p : Pl) : Prop := p.most ≤ 1000000 ∧ p.rules.length ≤ 1000 ∧ (∀ r ∈ p.rules, okR r) ∧ p.rules.Pairwise (fun a b => a.pre ≠ b.pre)
theorem okP_0 : okP Pl0 := ⟨by decide, by decide, by simp [Pl0], by simp [Pl0]⟩

theorem hasP_false {rs : List Rl} {p : List UInt8} (h : hasP rs p = false) : ∀ r ∈ rs, r.pre ≠ p := by
  unfold hasP at h
  rw [List.any_eq_false] at h
  intro r hr hh
  exact h r hr (by simp [hh])

theorem cOne_ok {p : Pl} {ts : List (List UInt8)} (hp : okP p) : okP (cOne p ts).1 := by
  unfold cOne
  split
  · split
    · exact hp
    · split
      · exact hp
      · split
        · exact hp
        · split
          · exact hp
          · rename_i h; exact ⟨by show (dV (ts.getD 1 [])).toNat ≤ 1000000; omega, hp.2⟩
  · split
    · exact hp
    · split
      · exact hp
      · split
        · exact hp
        · rename_i h1 h2 h3
          refine ⟨hp.1, by simp; omega, ?_, ?_⟩
          · intro r hr
            simp at hr
            rcases hr with hr | rfl
            · exact hp.2.2.1 r hr
            · exact rpar_ok (by simpa using h1)
          · simp only
            rw [List.pairwise_append]
            refine ⟨hp.2.2.2, by simp, ?_⟩
            intro a ha b hb
            simp at hb; subst hb
            exact hasP_false (by simpa using h2) a ha

theorem cOne_at (p : Pl) (ts : List (List UInt8)) (h : 0 < ts.length) (he : (cOne p ts).2.1 ≠ 0) : 0 ≤ (cOne p ts).2.2 ∧ (cOne p ts).2.2.toNat < ts.length := by
  revert he
  have hr := rpar_at ts h
  unfold cOne
  split
  · (repeat' split) <;> simp <;> omega
  · split
    · intro _; exact hr
    · split
      · rename_i h1 h2
        intro _
        simp only
        split
        · simp; omega
        · rename_i hne
          have : 2 ≤ ts.length := by
            have h3 : (rpar ts).2.1 = 0 := by simpa using h1
            revert h3 hne
            unfold rpar
            split
            · omega
            · split
              · omega
              · intro _ h; simp at h
          simp; omega
      · split <;> simp <;> omega

theorem cFold_ok : ∀ (ls : List (List Wd)) (p : Pl), okP p → okP (cFold p ls).1
  | [], p, h => h
  | l :: ls, p, h => by
    unfold cFold
    split
    · exact okP_0
    · exact cFold_ok ls _ (cOne_ok h)

end Go.Proofs.YtdgcgpapcbjfhaaGreatDoor

/- Sorting rules: plain lists, no program in sight. -/
namespace Go.Proofs.YtdgcgpapcbjfhaaGreatDoor

theorem lessB_nil (a : List UInt8) : lessB a [] = false := by cases a <;> rfl
theorem lessB_irrefl : ∀ a : List UInt8, lessB a a = false
  | [] => rfl
  | x :: xs => by rw [lessB, if_pos rfl]; exact lessB_irrefl xs
theorem lessB_tri : ∀ a b : List UInt8, lessB a b = false → lessB b a = false → a = b
  | [], [], _, _ => rfl
  | [], _ :: _, h, _ => by simp [lessB] at h
  | _ :: _, [], _, h => by simp [lessB] at h
  | x :: xs, y :: ys, h1, h2 => by
    rw [lessB] at h1 h2
    by_cases e : x = y
    · subst e
      rw [if_pos rfl] at h1 h2
      rw [lessB_tri xs ys h1 h2]
    · rw [if_neg e] at h1
      rw [if_neg (Ne.symm e)] at h2
      exact absurd (UInt8.toNat_inj.1 (by simp at h1 h2; omega)) e
theorem lessB_le_trans : ∀ a b c : List UInt8, lessB b a = false → lessB c b = false → lessB c a = false
  | [], _, c, _, _ => lessB_nil c
  | _ :: _, [], _, h, _ => by simp [lessB] at h
  | _ :: _, _ :: _, [], _, h => by simp [lessB] at h
  | x :: xs, y :: ys, z :: zs, h1, h2 => by
    rw [lessB] at h1 h2 ⊢
    by_cases e1 : y = x
    · subst e1
      rw [if_pos rfl] at h1
      by_cases e2 : z = y
      · subst e2
        rw [if_pos rfl] at h2 ⊢
        exact lessB_le_trans xs ys zs h1 h2
      · rw [if_neg e2] at h2 ⊢; exact h2
    · rw [if_neg e1] at h1
      by_cases e2 : z = y
      · subst e2
        rw [if_neg e1]; exact h1
      · rw [if_neg e2] at h2
        have n1 : y.toNat ≠ x.toNat := fun h => e1 (UInt8.toNat_inj.1 h)
        have n2 : z.toNat ≠ y.toNat := fun h => e2 (UInt8.toNat_inj.1 h)
        simp at h1 h2
        have n3 : z ≠ x := by intro h; subst h; omega
        rw [if_neg n3]; simp; omega
theorem lessB_asymm {a b : List UInt8} (h : lessB a b = true) : lessB b a = false := by
  cases hb : lessB b a with
  | false => rfl
  | true =>
    exfalso
    revert h hb
    induction a generalizing b with
    | nil => cases b <;> simp [lessB]
    | cons x xs ih =>
      cases b with
      | nil => simp [lessB]
      | cons y ys =>
        intro h hb
        rw [lessB] at h hb
        by_cases e : x = y
        · subst e
          rw [if_pos rfl] at h hb
          exact ih h hb
        · rw [if_neg e] at h
          rw [if_neg (Ne.symm e)] at hb
          simp at h hb
          omega
/-- less, then not more: less -/
theorem lessB_lt_le {a b c : List UInt8} (h1 : lessB a b = true) (h2 : lessB c b = false) : lessB a c = true := by
  cases h : lessB a c with
  | true => rfl
  | false => have := lessB_le_trans b c a h2 h; rw [h1] at this; cases this
theorem lessB_le_lt {a b c : List UInt8} (h1 : lessB b a = false) (h2 : lessB b c = true) : lessB a c = true := by
  cases h : lessB a c with
  | true => rfl
  | false => have := lessB_le_trans c a b h h1; rw [h2] at this; cases this

/-- the rule at a place -/
def ga (L : List Rl) (x : Nat) : Rl := L.getD x Rl0
/-- is the rule at a place less than that at another? -/
def ltA (L : List Rl) (x y : Nat) : Bool := lessB (ga L x).pre (ga L y).pre
theorem ga_get {L : List Rl} {x : Nat} (h : x < L.length) : ga L x = L[x] := by unfold ga; simp [h]

/-- in order from a place to a place -/
def Srtd (L : List Rl) (lo hi : Nat) : Prop := ∀ x y, lo ≤ x → x < y → y < hi → ltA L y x = false

/-- two change places -/
def sw (L : List Rl) (i j : Nat) : List Rl := (L.set i (ga L j)).set j (ga L i)
theorem sw_len (L : List Rl) (i j : Nat) : (sw L i j).length = L.length := by simp [sw]
theorem ga_set (L : List Rl) (i x : Nat) (r : Rl) (hi : i < L.length) : ga (L.set i r) x = if x = i then r else ga L x := by
  unfold ga
  rw [List.getD_eq_getElem?_getD, List.getElem?_set]
  by_cases h : i = x
  · subst h; simp [hi]
  · rw [if_neg h, if_neg (Ne.symm h)]; simp [List.getD]
theorem sw_ga {L : List Rl} {i j : Nat} (hi : i < L.length) (hj : j < L.length) (x : Nat) : ga (sw L i j) x = if x = j then ga L i else if x = i then ga L j else ga L x := by
  unfold sw
  rw [ga_set _ _ _ _ (by simpa using hj), ga_set _ _ _ _ hi]
theorem sw_perm {L : List Rl} {i j : Nat} (hi : i < L.length) (hj : j < L.length) : (sw L i j).Perm L := by
  have h := Array.swap_perm (xs := L.toArray) (i := i) (j := j) (by simpa using hi) (by simpa using hj)
  have h2 := h.toList
  rw [Array.toList_swap] at h2
  simp at h2
  unfold sw; rw [ga_get hi, ga_get hj]; exact h2

/-- a list changed by permuting within a range -/
structure Mix (L R : List Rl) (a b : Nat) : Prop where
  len : R.length = L.length
  perm : R.Perm L
  out : ∀ x, x < a ∨ b ≤ x → ga R x = ga L x
  inn : ∀ x, a ≤ x → x < b → ∃ y, a ≤ y ∧ y < b ∧ ga R x = ga L y
theorem Mix.refl (L : List Rl) (a b : Nat) : Mix L L a b := ⟨rfl, .refl _, fun _ _ => rfl, fun x h1 h2 => ⟨x, h1, h2, rfl⟩⟩
theorem Mix.trans {L M R : List Rl} {a b : Nat} (h : Mix L M a b) (k : Mix M R a b) : Mix L R a b :=
  ⟨k.len.trans h.len, k.perm.trans h.perm, fun x hx => (k.out x hx).trans (h.out x hx), fun x h1 h2 => by
    obtain ⟨y, hy1, hy2, hy3⟩ := k.inn x h1 h2
    obtain ⟨z, hz1, hz2, hz3⟩ := h.inn y hy1 hy2
    exact ⟨z, hz1, hz2, hy3.trans hz3⟩⟩
theorem Mix.mono {L R : List Rl} {a b a' b' : Nat} (h : Mix L R a b) (ha : a' ≤ a) (hb : b ≤ b') : Mix L R a' b' :=
  ⟨h.len, h.perm, fun x hx => h.out x (by omega), fun x h1 h2 => by
    by_cases hx : a ≤ x ∧ x < b
    · obtain ⟨y, hy⟩ := h.inn x hx.1 hx.2
      exact ⟨y, by omega, by omega, hy.2.2⟩
    · exact ⟨x, h1, h2, h.out x (by omega)⟩⟩
theorem Mix.sw {L : List Rl} {a b i j : Nat} (ha : a ≤ i) (hi : i < b) (hj : a ≤ j) (hb : j < b) (hn : b ≤ L.length) : Mix L (sw L i j) a b := by
  refine ⟨sw_len _ _ _, sw_perm (by omega) (by omega), fun x hx => ?_, fun x h1 h2 => ?_⟩
  · rw [sw_ga (by omega) (by omega), if_neg (by omega), if_neg (by omega)]
  · rw [sw_ga (by omega) (by omega)]
    split
    · exact ⟨i, ha, hi, rfl⟩
    · split
      · exact ⟨j, hj, hb, rfl⟩
      · exact ⟨x, h1, h2, rfl⟩
theorem Mix.srt {L R : List Rl} {a b lo hi : Nat} (h : Mix L R a b) (hs : Srtd L lo hi) (hd : hi ≤ a ∨ b ≤ lo) : Srtd R lo hi := by
  intro x y h1 h2 h3
  have := hs x y h1 h2 h3
  unfold ltA at *
  rwa [h.out x (by omega), h.out y (by omega)]
theorem Srtd.none (L : List Rl) {lo hi : Nat} (h : hi ≤ lo + 1) : Srtd L lo hi := fun x y h1 h2 h3 => by omega
theorem Srtd.mono {L : List Rl} {lo hi lo' hi' : Nat} (h : Srtd L lo hi) (h1 : lo ≤ lo') (h2 : hi' ≤ hi) : Srtd L lo' hi' := fun x y a b c => h x y (by omega) b (by omega)
theorem Srtd.le {L : List Rl} {lo hi x y : Nat} (h : Srtd L lo hi) (h1 : lo ≤ x) (h2 : x ≤ y) (h3 : y < hi) : ltA L y x = false := by
  rcases Nat.lt_or_ge x y with hl | hg
  · exact h x y h1 hl h3
  · obtain rfl : x = y := by omega
    exact lessB_irrefl _
theorem ltA_trans {L : List Rl} {x y z : Nat} (h1 : ltA L y x = false) (h2 : ltA L z y = false) : ltA L z x = false := lessB_le_trans _ _ _ h1 h2

/-- insertion: in order but for the rule at j -/
def InsI (L : List Rl) (a i j : Nat) : Prop :=
  (∀ x y, a ≤ x → x < y → y ≤ i → x ≠ j → y ≠ j → ltA L y x = false) ∧ (∀ y, j < y → y ≤ i → ltA L y j = false)
theorem InsI.start {L : List Rl} {a i : Nat} (h : Srtd L a i) : InsI L a i i := ⟨fun x y h1 h2 h3 h4 h5 => h x y h1 h2 (by omega), fun y h1 h2 => by omega⟩
theorem InsI.done {L : List Rl} {a i j : Nat} (h : InsI L a i j) (hj : a ≤ j) (hji : j ≤ i) (hd : j = a ∨ ltA L j (j - 1) = false) : Srtd L a (i + 1) := by
  intro x y h1 h2 h3
  by_cases e1 : x = j
  · subst e1; exact h.2 y h2 (by omega)
  · by_cases e2 : y = j
    · subst e2
      rcases hd with rfl | hd
      · omega
      · by_cases e3 : x = y - 1
        · rw [e3]; exact hd
        · exact ltA_trans (h.1 x (y - 1) h1 (by omega) (by omega) e1 (by omega)) hd
    · exact h.1 x y h1 h2 (by omega) e1 e2
theorem InsI.step {L : List Rl} {a i j : Nat} (h : InsI L a i j) (hj : a < j) (hji : j ≤ i) (hn : i < L.length) (hd : ltA L j (j - 1) = true) : InsI (sw L j (j - 1)) a i (j - 1) := by
  have g := sw_ga (L := L) (i := j) (j := j - 1) (by omega) (by omega)
  have e1 : ∀ x, x ≠ j → x ≠ j - 1 → ga (sw L j (j - 1)) x = ga L x := fun x h1 h2 => by rw [g, if_neg h2, if_neg h1]
  have e2 : ga (sw L j (j - 1)) j = ga L (j - 1) := by rw [g, if_neg (by omega), if_pos rfl]
  have e3 : ga (sw L j (j - 1)) (j - 1) = ga L j := by rw [g, if_pos rfl]
  refine ⟨fun x y h1 h2 h3 h4 h5 => ?_, fun y h1 h2 => ?_⟩
  · unfold ltA
    by_cases hx : x = j
    · subst hx
      rw [e2, e1 y (by omega) (by omega)]
      exact h.1 (x - 1) y (by omega) (by omega) h3 (by omega) (by omega)
    · rw [e1 x hx h4]
      by_cases hy : y = j
      · subst hy
        rw [e2]
        exact h.1 x (y - 1) h1 (by omega) (by omega) (by omega) (by omega)
      · rw [e1 y hy h5]
        exact h.1 x y h1 h2 h3 hx hy
  · unfold ltA
    rw [e3]
    by_cases hy : y = j
    · subst hy; rw [e2]; exact lessB_asymm hd
    · rw [e1 y hy (by omega)]
      exact h.2 y (by omega) h2

/-- k pairs have changed places: from a on, and from b on -/
def swapR (L : List Rl) (a b : Nat) : Nat → List Rl
  | 0 => L
  | k + 1 => sw (swapR L a b k) (a + k) (b + k)
theorem swapR_len (L : List Rl) (a b : Nat) : ∀ k, (swapR L a b k).length = L.length
  | 0 => rfl
  | k + 1 => by rw [swapR, sw_len, swapR_len L a b k]
theorem swapR_ga {L : List Rl} {a b : Nat} : ∀ k, a + k ≤ b → b + k ≤ L.length → ∀ x, ga (swapR L a b k) x = if a ≤ x ∧ x < a + k then ga L (b + (x - a)) else if b ≤ x ∧ x < b + k then ga L (a + (x - b)) else ga L x
  | 0, _, _, x => by rw [if_neg (by omega), if_neg (by omega)]; rfl
  | k + 1, h1, h2, x => by
    have ih := swapR_ga (L := L) (a := a) (b := b) k (by omega) (by omega)
    rw [swapR, sw_ga (by rw [swapR_len]; omega) (by rw [swapR_len]; omega), ih, ih, ih]
    by_cases e1 : x = b + k
    · subst e1
      rw [if_pos rfl, if_neg (by omega), if_neg (by omega), if_neg (by omega), if_pos (by omega)]
      congr 1; omega
    · rw [if_neg e1]
      by_cases e2 : x = a + k
      · subst e2
        rw [if_pos rfl, if_neg (by omega), if_neg (by omega), if_pos (by omega)]
        congr 1; omega
      · rw [if_neg e2]
        by_cases e3 : a ≤ x ∧ x < a + k
        · rw [if_pos e3, if_pos (by omega)]
        · rw [if_neg e3, if_neg (c := a ≤ x ∧ x < a + (k + 1)) (by omega)]
          by_cases e4 : b ≤ x ∧ x < b + k
          · rw [if_pos e4, if_pos (by omega)]
          · rw [if_neg e4, if_neg (by omega)]
theorem swapR_mix {L : List Rl} {a b lo hi : Nat} : ∀ k, a + k ≤ b → b + k ≤ hi → lo ≤ a → hi ≤ L.length → Mix L (swapR L a b k) lo hi
  | 0, _, _, _, _ => Mix.refl _ _ _
  | k + 1, h1, h2, h3, h4 => (swapR_mix k (by omega) (by omega) h3 h4).trans (Mix.sw (by omega) (by omega) (by omega) (by omega) (by rw [swapR_len]; exact h4))

/-- two neighbours of a range have changed places, each in its order -/
def rotF (L : List Rl) (a m b x : Nat) : Rl := if a ≤ x ∧ x < a + (b - m) then ga L (m + (x - a)) else if a + (b - m) ≤ x ∧ x < b then ga L (a + (x - (a + (b - m)))) else ga L x
theorem rot_left {L : List Rl} {m i j : Nat} (hij : j < i) (hi : i ≤ m) (hn : m + j ≤ L.length) (x : Nat) : rotF (swapR L (m - i) m j) (m - i + j) m (m + j) x = rotF L (m - i) m (m + j) x := by
  have g := swapR_ga (L := L) (a := m - i) (b := m) j (by omega) (by omega)
  unfold rotF
  rw [g, g, g]
  by_cases c1 : m - i ≤ x ∧ x < m - i + j
  · rw [if_neg (c := m - i + j ≤ x ∧ x < m - i + j + (m + j - m)) (by omega), if_neg (c := m - i + j + (m + j - m) ≤ x ∧ x < m + j) (by omega), if_pos c1, if_pos (by omega)]
  · by_cases c2 : m - i + j ≤ x ∧ x < m - i + j + j
    · rw [if_pos (c := m - i + j ≤ x ∧ x < m - i + j + (m + j - m)) (by omega), if_neg (by omega), if_pos (by omega), if_neg (c := m - i ≤ x ∧ x < m - i + (m + j - m)) (by omega), if_pos (by omega)]
      congr 1; omega
    · rw [if_neg (c := m - i + j ≤ x ∧ x < m - i + j + (m + j - m)) (by omega)]
      by_cases c3 : m - i + j + j ≤ x ∧ x < m + j
      · rw [if_pos (c := m - i + j + (m + j - m) ≤ x ∧ x < m + j) (by omega), if_neg (by omega), if_neg (by omega), if_neg (c := m - i ≤ x ∧ x < m - i + (m + j - m)) (by omega), if_pos (by omega)]
        congr 1; omega
      · rw [if_neg (c := m - i + j + (m + j - m) ≤ x ∧ x < m + j) (by omega), if_neg (by omega), if_neg (by omega), if_neg (c := m - i ≤ x ∧ x < m - i + (m + j - m)) (by omega), if_neg (by omega)]
theorem rot_right {L : List Rl} {m i j : Nat} (hij : i < j) (hi : i ≤ m) (hn : m + j ≤ L.length) (x : Nat) : rotF (swapR L (m - i) (m + j - i) i) (m - i) m (m + (j - i)) x = rotF L (m - i) m (m + j) x := by
  have g := swapR_ga (L := L) (a := m - i) (b := m + j - i) i (by omega) (by omega)
  unfold rotF
  rw [g, g, g]
  by_cases c1 : m - i ≤ x ∧ x < m - i + (j - i)
  · rw [if_pos (c := m - i ≤ x ∧ x < m - i + (m + (j - i) - m)) (by omega), if_neg (by omega), if_pos (c := m - i ≤ x ∧ x < m - i + (m + j - m)) (by omega)]
    by_cases c2 : m + j - i ≤ m + (x - (m - i)) ∧ m + (x - (m - i)) < m + j - i + i
    · exfalso; omega
    · rw [if_neg c2]
  · rw [if_neg (c := m - i ≤ x ∧ x < m - i + (m + (j - i) - m)) (by omega)]
    by_cases c2 : m - i + (j - i) ≤ x ∧ x < m + (j - i)
    · rw [if_pos (c := m - i + (m + (j - i) - m) ≤ x ∧ x < m + (j - i)) (by omega), if_pos (by omega), if_pos (c := m - i ≤ x ∧ x < m - i + (m + j - m)) (by omega)]
      congr 1; omega
    · rw [if_neg (c := m - i + (m + (j - i) - m) ≤ x ∧ x < m + (j - i)) (by omega), if_neg (c := m - i ≤ x ∧ x < m - i + i) (by omega)]
      by_cases c3 : m + j - i ≤ x ∧ x < m + j
      · rw [if_pos (by omega), if_neg (c := m - i ≤ x ∧ x < m - i + (m + j - m)) (by omega), if_pos (by omega)]
        congr 1; omega
      · rw [if_neg (by omega), if_neg (c := m - i ≤ x ∧ x < m - i + (m + j - m)) (by omega), if_neg (by omega)]
theorem rot_even {L : List Rl} {m i : Nat} (hi : i ≤ m) (hn : m + i ≤ L.length) (x : Nat) : ga (swapR L (m - i) m i) x = rotF L (m - i) m (m + i) x := by
  rw [swapR_ga (L := L) (a := m - i) (b := m) i (by omega) (by omega)]
  unfold rotF
  by_cases c1 : m - i ≤ x ∧ x < m - i + i
  · rw [if_pos c1, if_pos (by omega)]
  · rw [if_neg c1, if_neg (c := m - i ≤ x ∧ x < m - i + (m + i - m)) (by omega)]
    by_cases c2 : m ≤ x ∧ x < m + i
    · rw [if_pos c2, if_pos (by omega)]; congr 1; omega
    · rw [if_neg c2, if_neg (by omega)]

/-- the first of a range goes in among the rest -/
theorem one_left {L R : List Rl} {a i b : Nat} (hai : a < i) (hib : i ≤ b) (hs : Srtd L (a + 1) b) (hlo : ∀ x, a < x → x < i → ltA L x a = true) (hhi : ∀ x, i ≤ x → x < b → ltA L x a = false)
    (hR : ∀ x, a ≤ x → x < b → ga R x = if x < i - 1 then ga L (x + 1) else if x = i - 1 then ga L a else ga L x) : Srtd R a b := by
  intro x y h1 h2 h3
  unfold ltA
  rw [hR x h1 (by omega), hR y (by omega) h3]
  by_cases c1 : y < i - 1
  · rw [if_pos c1, if_pos (by omega)]; exact hs _ _ (by omega) (by omega) (by omega)
  · rw [if_neg c1]
    by_cases c2 : y = i - 1
    · rw [if_pos c2, if_pos (by omega)]
      exact lessB_asymm (hlo (x + 1) (by omega) (by omega))
    · rw [if_neg c2]
      by_cases c3 : x < i - 1
      · rw [if_pos c3]; exact hs _ _ (by omega) (by omega) h3
      · rw [if_neg c3]
        by_cases c4 : x = i - 1
        · rw [if_pos c4]; exact hhi y (by omega) h3
        · rw [if_neg c4]; exact hs _ _ (by omega) h2 h3
/-- the last of a range goes in among the rest -/
theorem one_right {L R : List Rl} {a i m : Nat} (hai : a ≤ i) (him : i ≤ m) (hs : Srtd L a m) (hlo : ∀ x, a ≤ x → x < i → ltA L m x = false) (hhi : ∀ x, i ≤ x → x < m → ltA L m x = true)
    (hR : ∀ x, a ≤ x → x < m + 1 → ga R x = if x < i then ga L x else if x = i then ga L m else ga L (x - 1)) : Srtd R a (m + 1) := by
  intro x y h1 h2 h3
  unfold ltA
  rw [hR x h1 (by omega), hR y (by omega) h3]
  by_cases c1 : y < i
  · rw [if_pos c1, if_pos (by omega)]; exact hs _ _ h1 h2 (by omega)
  · rw [if_neg c1]
    by_cases c2 : y = i
    · rw [if_pos c2, if_pos (by omega)]
      exact hlo x h1 (by omega)
    · rw [if_neg c2]
      by_cases c3 : x < i
      · rw [if_pos c3]; exact hs _ _ h1 (by omega) (by omega)
      · rw [if_neg c3]
        by_cases c4 : x = i
        · rw [if_pos c4]; exact lessB_asymm (hhi (y - 1) (by omega) (by omega))
        · rw [if_neg c4]; exact hs _ _ (by omega) (by omega) (by omega)

/-- the two halves behind a rotation: all of the one not more than all of the other -/
theorem sym_cut {L : List Rl} {a m b st en : Nat} (h1 : a ≤ st) (h2 : st ≤ m) (h3 : m ≤ en) (h4 : en ≤ b) (hl : Srtd L a m) (hr : Srtd L m b)
    (c1 : a < st → en < b → ltA L en (st - 1) = false) (c2 : st < m → m < en → ltA L (en - 1) st = true) :
    ∀ x y, a ≤ x → x < st + (en - m) → st + (en - m) ≤ y → y < b → lessB (rotF L st m en y).pre (rotF L st m en x).pre = false := by
  intro x y hx1 hx2 hy1 hy2
  unfold rotF
  by_cases dx : st ≤ x
  · rw [if_pos (c := st ≤ x ∧ x < st + (en - m)) (by omega)]
    rw [if_neg (c := st ≤ y ∧ y < st + (en - m)) (by omega)]
    by_cases dy : y < en
    · rw [if_pos (by omega)]
      have := c2 (by omega) (by omega)
      exact lessB_le_trans _ _ _ (hr.le (x := m + (x - st)) (y := en - 1) (by omega) (by omega) (by omega)) (lessB_le_trans _ _ _ (lessB_asymm this) (hl.le (x := st) (y := st + (y - (st + (en - m)))) h1 (by omega) (by omega)))
    · rw [if_neg (by omega)]
      exact hr.le (by omega) (by omega) hy2
  · rw [if_neg (c := st ≤ x ∧ x < st + (en - m)) (by omega), if_neg (c := st + (en - m) ≤ x ∧ x < en) (by omega), if_neg (c := st ≤ y ∧ y < st + (en - m)) (by omega)]
    by_cases dy : y < en
    · rw [if_pos (by omega)]
      exact hl.le hx1 (by omega) (by omega)
    · rw [if_neg (by omega)]
      have := c1 (by omega) (by omega)
      exact lessB_le_trans _ _ _ (hl.le (x := x) (y := st - 1) hx1 (by omega) (by omega)) (lessB_le_trans _ _ _ this (hr.le (x := en) (y := y) h3 (by omega) hy2))
theorem rot_srt1 {L R : List Rl} {a m st en : Nat} (h1 : a ≤ st) (h2 : st ≤ m) (h3 : m ≤ en) (hl : Srtd L a m) (hR : ∀ x, ga R x = rotF L st m en x) : Srtd R a st := by
  intro x y hx hxy hy
  unfold ltA
  rw [hR, hR]
  unfold rotF
  rw [if_neg (by omega), if_neg (by omega), if_neg (by omega), if_neg (by omega)]
  exact hl _ _ hx hxy (by omega)
theorem rot_srt2 {L R : List Rl} {m b st en : Nat} (h2 : st ≤ m) (h3 : m ≤ en) (h4 : en ≤ b) (hr : Srtd L m b) (hR : ∀ x, ga R x = rotF L st m en x) : Srtd R st (st + (en - m)) := by
  intro x y hx hxy hy
  unfold ltA
  rw [hR, hR]
  unfold rotF
  rw [if_pos (by omega), if_pos (by omega)]
  exact hr _ _ (by omega) (by omega) (by omega)
theorem rot_srt3 {L R : List Rl} {a m st en : Nat} (h1 : a ≤ st) (h2 : st ≤ m) (h3 : m ≤ en) (hl : Srtd L a m) (hR : ∀ x, ga R x = rotF L st m en x) : Srtd R (st + (en - m)) en := by
  intro x y hx hxy hy
  unfold ltA
  rw [hR, hR]
  unfold rotF
  rw [if_neg (by omega), if_pos (by omega), if_neg (by omega), if_pos (by omega)]
  exact hl _ _ (by omega) (by omega) (by omega)
theorem rot_srt4 {L R : List Rl} {m b st en : Nat} (h2 : st ≤ m) (h3 : m ≤ en) (hr : Srtd L m b) (hR : ∀ x, ga R x = rotF L st m en x) : Srtd R en b := by
  intro x y hx hxy hy
  unfold ltA
  rw [hR, hR]
  unfold rotF
  rw [if_neg (by omega), if_neg (by omega), if_neg (by omega), if_neg (by omega)]
  exact hr _ _ (by omega) hxy hy
/-- two halves in order, all of the one not more than all of the other -/
theorem sym_join {R : List Rl} {a mid b : Nat} (hl : Srtd R a mid) (hr : Srtd R mid b) (h : ∀ x y, a ≤ x → x < mid → mid ≤ y → y < b → ltA R y x = false) : Srtd R a b := by
  intro x y h1 h2 h3
  by_cases c1 : y < mid
  · exact hl x y h1 h2 c1
  · by_cases c2 : mid ≤ x
    · exact hr x y c2 h2 h3
    · exact h x y h1 (by omega) (by omega) h3
theorem Mix.apart {L R : List Rl} {a mid b lo hi : Nat} (hm : Mix L R lo hi) (hd : (a ≤ lo ∧ hi ≤ mid) ∨ (mid ≤ lo ∧ hi ≤ b)) (h : ∀ x y, a ≤ x → x < mid → mid ≤ y → y < b → ltA L y x = false) :
    ∀ x y, a ≤ x → x < mid → mid ≤ y → y < b → ltA R y x = false := by
  intro x y h1 h2 h3 h4
  unfold ltA
  have ex : ∃ x', a ≤ x' ∧ x' < mid ∧ ga R x = ga L x' := by
    by_cases c : lo ≤ x ∧ x < hi
    · obtain ⟨z, z1, z2, z3⟩ := hm.inn x c.1 c.2
      exact ⟨z, by omega, by omega, z3⟩
    · exact ⟨x, h1, h2, hm.out x (by omega)⟩
  have ey : ∃ y', mid ≤ y' ∧ y' < b ∧ ga R y = ga L y' := by
    by_cases c : lo ≤ y ∧ y < hi
    · obtain ⟨z, z1, z2, z3⟩ := hm.inn y c.1 c.2
      exact ⟨z, by omega, by omega, z3⟩
    · exact ⟨y, h3, h4, hm.out y (by omega)⟩
  obtain ⟨x', x1, x2, x3⟩ := ex
  obtain ⟨y', y1, y2, y3⟩ := ey
  rw [x3, y3]; exact h x' y' x1 x2 y1 y2

/-- blocks of k places from a place on are each in order -/
def Blk (L : List Rl) (k n a : Nat) : Prop := ∀ q, a ≤ k * q → k * q < n → Srtd L (k * q) (min (k * q + k) n)
/-- blocks of k places ahead of a place are each in order -/
def BlkTo (L : List Rl) (k a : Nat) : Prop := ∀ q, k * q + k ≤ a → Srtd L (k * q) (k * q + k)

theorem insA_perm (r : Rl) (l : List Rl) : (insA r l).Perm (r :: l) := by
  unfold insA
  have h := List.perm_middle (a := r) (l₁ := l.take (posA r l l.length)) (l₂ := l.drop (posA r l l.length))
  rwa [List.take_append_drop] at h
theorem sortR_perm : ∀ (n : Nat) (rs : List Rl), rs.length = n → (sortR rs).Perm rs
  | 0, rs, h => by rw [List.eq_nil_of_length_eq_zero h]; exact .refl _
  | n + 1, rs, h => by
    have hne : rs ≠ [] := fun e => by rw [e] at h; cases h
    have e := List.dropLast_concat_getLast hne
    have ih := sortR_perm n rs.dropLast (by simp [h])
    rw [← e, sortR_snoc]
    exact (insA_perm _ _).trans ((List.Perm.cons _ ih).trans (List.perm_append_singleton _ _).symm)

def leR (x y : Rl) : Prop := lessB y.pre x.pre = false
theorem leR_trans {x y z : Rl} (h1 : leR x y) (h2 : leR y z) : leR x z := lessB_le_trans _ _ _ h1 h2
theorem srtd_pair {L : List Rl} (h : Srtd L 0 L.length) : L.Pairwise leR := by
  rw [List.pairwise_iff_getElem]
  intro i j hi hj hij
  have := h i j (Nat.zero_le _) hij hj
  unfold ltA at this
  rw [ga_get hi, ga_get hj] at this
  exact this

theorem posA_lt {r : Rl} {l : List Rl} : ∀ n, n ≤ l.length → ∀ x, posA r l n ≤ x → x < n → lessB r.pre (ga l x).pre = true
  | 0, _, x, _, h => by omega
  | n + 1, hn, x, h1, h2 => by
    unfold posA at h1
    split at h1
    · rename_i hl
      by_cases e : x = n
      · rw [e]; exact hl
      · exact posA_lt n (by omega) x h1 (by omega)
    · omega
theorem posA_ge {r : Rl} {l : List Rl} : ∀ n, posA r l n = 0 ∨ lessB r.pre (ga l (posA r l n - 1)).pre = false
  | 0 => .inl rfl
  | n + 1 => by
    unfold posA
    split
    · exact posA_ge n
    · rename_i hl
      exact .inr (by unfold ga; simpa using hl)
theorem insA_pair {r : Rl} {l : List Rl} (h : l.Pairwise leR) : (insA r l).Pairwise leR := by
  have hle := posA_le r l l.length
  have hlt := posA_lt (r := r) (l := l) l.length (Nat.le_refl _)
  have hge := posA_ge (r := r) (l := l) l.length
  unfold insA
  generalize posA r l l.length = k at *
  rw [List.pairwise_append]
  have hp := h
  rw [← List.take_append_drop k l, List.pairwise_append] at hp
  have hd : ∀ b, b ∈ l.drop k → leR r b := fun b hb => by
    obtain ⟨i, hi, e⟩ := List.getElem_of_mem hb
    simp at hi
    have := hlt (k + i) (by omega) (by omega)
    rw [ga_get (by omega)] at this
    rw [List.getElem_drop] at e
    rw [e] at this
    exact lessB_asymm this
  refine ⟨hp.1, List.pairwise_cons.2 ⟨fun b hb => hd b hb, hp.2.1⟩, ?_⟩
  intro a ha b hb
  obtain ⟨i, hi, e⟩ := List.getElem_of_mem ha
  simp at hi
  rw [List.getElem_take] at e
  have hk : 0 < k := by omega
  have har : leR a r := by
    rcases hge with h0 | h0
    · omega
    · have hla : leR a (ga l (k - 1)) := by
        unfold leR
        rw [ga_get (by omega), ← e]
        by_cases ee : i = k - 1
        · subst ee; exact lessB_irrefl _
        · exact (List.pairwise_iff_getElem.1 h) i (k - 1) (by omega) (by omega) (by omega)
      exact leR_trans hla h0
  rcases List.mem_cons.1 hb with rfl | hb
  · exact har
  · exact leR_trans har (hd b hb)
theorem sortR_pair : ∀ (n : Nat) (rs : List Rl), rs.length = n → (sortR rs).Pairwise leR
  | 0, rs, h => by rw [List.eq_nil_of_length_eq_zero h]; exact .nil
  | n + 1, rs, h => by
    have hne : rs ≠ [] := fun e => by rw [e] at h; cases h
    rw [← List.dropLast_concat_getLast hne, sortR_snoc]
    exact insA_pair (sortR_pair n _ (by simp [h]))

theorem pre_inj {rs : List Rl} (hd : rs.Pairwise (fun a b => a.pre ≠ b.pre)) {a b : Rl} (ha : a ∈ rs) (hb : b ∈ rs) (h : a.pre = b.pre) : a = b := by
  obtain ⟨i, hi, e1⟩ := List.getElem_of_mem ha
  obtain ⟨j, hj, e2⟩ := List.getElem_of_mem hb
  rw [List.pairwise_iff_getElem] at hd
  rcases Nat.lt_trichotomy i j with hl | he | hg
  · exact absurd h (by rw [← e1, ← e2]; exact hd i j hi hj hl)
  · subst he; rw [← e1, ← e2]
  · exact absurd h.symm (by rw [← e1, ← e2]; exact hd j i hj hi hg)
/-- whatever sorts rules of different prefixes, sorts them so -/
theorem sort_one {rs R : List Rl} (hd : rs.Pairwise (fun a b => a.pre ≠ b.pre)) (hp : R.Perm rs) (hs : Srtd R 0 R.length) : R = sortR rs := by
  have p2 := sortR_perm _ rs rfl
  refine List.Perm.eq_of_pairwise (le := leR) ?_ (srtd_pair hs) (sortR_pair _ rs rfl) (hp.trans p2.symm)
  intro a b ha hb h1 h2
  exact pre_inj hd (hp.subset ha) (p2.subset hb) (lessB_tri _ _ h2 h1)
theorem sortR_len' (rs : List Rl) : (sortR rs).length = rs.length := sortR_len _ rs rfl

/-- one round of blocks -/
theorem Blk.start {L : List Rl} {k n : Nat} (h1 : BlkTo L k (k * (n / k))) (hk : 0 < k) (h2 : Srtd L (k * (n / k)) n) : Blk L k n 0 := by
  intro q _ hq
  by_cases c : k * q + k ≤ k * (n / k)
  · rw [Nat.min_eq_left (by have := Nat.mul_div_le n k; omega)]; exact h1 q c
  · have : q = n / k := by
      have h3 : n / k ≤ q := by
        rcases Nat.lt_or_ge q (n / k) with h | h
        · exact absurd (by have := Nat.mul_le_mul_left k (Nat.succ_le_of_lt h); rw [Nat.mul_succ] at this; exact this) c
        · exact h
      have h4 : q ≤ n / k := (Nat.le_div_iff_mul_le hk).2 (by rw [Nat.mul_comm]; omega)
      omega
    subst this
    have hm := Nat.div_add_mod n k
    have := Nat.mod_lt n hk
    rw [Nat.min_eq_right (by omega)]; exact h2

end Go.Proofs.YtdgcgpapcbjfhaaGreatDoor
