/- Words of a text, by lines: plain lists, no program in sight. -/
import Derived.Test.YtdgcgpapcbjfhaaGreatDoorJ03DigR
import Derived.Laws.IdiomStrings
import Derived.Lib.Bytealg
set_option linter.unusedVariables false
set_option linter.unusedSimpArgs false

/- Keys: key.Right and its reference. -/
namespace Go.Proofs.YtdgcgpapcbjfhaaGreatDoor
open Go.RowKit

def kByte (c : UInt8) : Bool := decide (33 ≤ c.toNat) && decide (c.toNat ≤ 126)
def kRight (l : List UInt8) : Bool := decide (1 ≤ l.length) && decide (l.length ≤ 128) && l.all kByte

theorem kAll_take_succ (l : List UInt8) (k : Nat) (h : k < l.length) : (l.take (k + 1)).all kByte = ((l.take k).all kByte && kByte (l.getD k 0)) := by rw [take_snoc l k h]; simp
theorem kAll_of_bad (l : List UInt8) (k : Nat) (h : k < l.length) (hd : kByte (l.getD k 0) = false) : l.all kByte = false := by
  rw [Bool.eq_false_iff]; intro hh
  rw [List.all_eq_true] at hh
  have := hh (l.getD k 0) (by rw [getD_lt _ _ _ h]; exact List.getElem_mem h)
  rw [hd] at this; cases this

def kAll (l : List UInt8) : Bool := l.all kByte
theorem kRight_of_bad {l : List UInt8} (h : l.all kByte = false) : kRight l = false := by unfold kRight; rw [h]; simp

set_option maxRecDepth 100000 in
set_option maxHeartbeats 1600000 in
theorem rKey (s : ByteArray) (w : World) :
    Calls Tryz.prog 20 #[.string s] w fun e w' => e = .returned (.bool (kRight (bs s))) ∧ w = w' := by
  have hlen := bs_length s
  by_cases h1 : s.size < 1
  · have E : Hid (kRight (bs s) = false) := Lib.hid (by unfold kRight; rw [hlen]; simp; omega)
    go_enter Tryz.func20, Tryz.ntmps20
    go_wp2
    go_ret
    exact ⟨ret_bool E.out.symm, rfl⟩
  by_cases h2 : 128 < s.size
  · have E : Hid (kRight (bs s) = false) := Lib.hid (by unfold kRight; rw [hlen]; simp; omega)
    go_enter Tryz.func20, Tryz.ntmps20
    go_wp2
    go_ret
    exact ⟨ret_bool E.out.symm, rfl⟩
  go_enter Tryz.func20, Tryz.ntmps20
  go_wp2
  go_loop [3] (fun i => ∃ k : Nat, k ≤ s.size ∧ i = .int .i64 k ∧ Hid (((bs s).take k).all kByte = true)) (fun i => s.size - (intOf i).toNat)
  case atStart => exact ⟨0, Nat.zero_le _, rfl, Lib.hid (by simp)⟩
  case round =>
    obtain ⟨k, hk, rfl, hall⟩ := hrel
    by_cases hlt : k < s.size
    · obtain ⟨p, hp⟩ : ∃ p : Nat, s[k].toNat = p := ⟨_, rfl⟩
      have hlk : k < (bs s).length := by rw [hlen]; exact hlt
      have hA : Hid (kByte ((bs s).getD k 0) = (decide (33 ≤ p) && decide (p ≤ 126))) := Lib.hid (by unfold kByte; rw [← bs_at s k hlt, hp])
      by_cases hd1 : p < 33
      · go_wp2
        go_ret
        exact ⟨ret_bool (kRight_of_bad (kAll_of_bad (bs s) k hlk (by rw [hA.out]; simp; omega))).symm, rfl⟩
      by_cases hd2 : 126 < p
      · go_wp2
        go_ret
        exact ⟨ret_bool (kRight_of_bad (kAll_of_bad (bs s) k hlk (by rw [hA.out]; simp; omega))).symm, rfl⟩
      go_wp2
      go_round
      case rel => exact ⟨k + 1, by omega, by go_num, Lib.hid (by rw [kAll_take_succ _ _ hlk, hall.out, hA.out]; simp; omega)⟩
      case measure => simp [intOf]; omega
    · obtain rfl : k = s.size := by omega
      go_wp2
      go_ret
      refine ⟨ret_bool ?_, rfl⟩
      have := hall.out; rw [← hlen, List.take_length] at this
      unfold kRight; rw [this, hlen]; simp; omega

theorem kBad (c : Int) (h0 : 0 ≤ c) (h1 : c ≤ 255) (w : World) :
    Calls Tryz.prog 51 #[.int .u8 c] w fun e w' => e = .returned (.bool (decide (c < 33) || decide (126 < c))) ∧ w = w' := by
  by_cases hd1 : c < 33
  · go_enter Tryz.func51, Tryz.ntmps51
    go_wp2
    go_ret
    exact ⟨ret_bool (by simp [hd1]), rfl⟩
  by_cases hd2 : 126 < c
  · go_enter Tryz.func51, Tryz.ntmps51
    go_wp2
    go_ret
    exact ⟨ret_bool (by simp [hd2]), rfl⟩
  go_enter Tryz.func51, Tryz.ntmps51
  go_wp2
  go_ret
  exact ⟨ret_bool (by simp [hd1]; omega), rfl⟩

set_option maxRecDepth 100000 in
set_option maxHeartbeats 1600000 in
theorem kIndex (l : List UInt8) (b cap : Nat) (hl : l.length ≤ 128) (w : World) (hc : ∀ i, i < l.length → w.cell? ⟨b, i, none⟩ = some (.int .u8 ((l.getD i 0).toNat : Int))) :
    Calls Tryz.prog 79 #[.slice (some ⟨b, 0, none⟩) l.length cap, .func (.func 51) #[] #[]] w fun e w' => ∃ r : Int, e = .returned (.int .i64 r) ∧ (r < 0 ↔ kAll l = true) ∧ w = w' := by
  have hC := Lib.hid hc; clear hc
  go_enter Tryz.func79, Tryz.ntmps79
  go_wp2
  go_loop [8] (fun i => ∃ k : Nat, k ≤ l.length ∧ i = .int .i64 k ∧ Hid ((l.take k).all kByte = true)) (fun i => l.length - (intOf i).toNat)
  case atStart => exact ⟨0, Nat.zero_le _, rfl, Lib.hid (by simp)⟩
  case round =>
    obtain ⟨k, hk, rfl, hall⟩ := hrel
    by_cases hlt : k < l.length
    · obtain ⟨p, hp⟩ : ∃ p : Nat, (l.getD k 0).toNat = p := ⟨_, rfl⟩
      have hp2 : p ≤ 255 := by rw [← hp]; exact Nat.le_of_lt_succ (UInt8.toNat_lt _)
      have hcell := hC.out k hlt
      rw [hp] at hcell
      have hA : Hid (kByte (l.getD k 0) = (decide (33 ≤ p) && decide (p ≤ 126))) := Lib.hid (by unfold kByte; rw [hp])
      clear hp
      go_wp2_with fail
      refine (kBad p (by omega) (by omega) _).mono ?_
      rintro e w1 ⟨rfl, rfl⟩
      by_cases hd1 : p < 33
      · have e1 : (decide ((p : Int) < 33) || decide (126 < (p : Int))) = true := by simp; omega
        rw [e1]; clear e1
        go_wp2
        go_ret
        exact ⟨_, rfl, by rw [show kAll l = false from kAll_of_bad l k hlt (by rw [hA.out]; simp; omega)]; simp, rfl⟩
      by_cases hd2 : 126 < p
      · have e1 : (decide ((p : Int) < 33) || decide (126 < (p : Int))) = true := by simp; omega
        rw [e1]; clear e1
        go_wp2
        go_ret
        exact ⟨_, rfl, by rw [show kAll l = false from kAll_of_bad l k hlt (by rw [hA.out]; simp; omega)]; simp, rfl⟩
      have e1 : (decide ((p : Int) < 33) || decide (126 < (p : Int))) = false := by simp; omega
      rw [e1]; clear e1
      go_wp2
      go_round
      case rel => exact ⟨k + 1, by omega, by go_num, Lib.hid (by rw [kAll_take_succ _ _ hlt, hall.out, hA.out]; simp; omega)⟩
      case measure => simp [intOf]; omega
    · obtain rfl : k = l.length := by omega
      go_wp2
      go_ret
      have hk1 : kAll l = true := by have := hall.out; rw [List.take_length] at this; exact this
      exact ⟨_, rfl, ⟨fun _ => hk1, fun _ => by decide⟩, rfl⟩

theorem kContains (l : List UInt8) (b cap : Nat) (hl : l.length ≤ 128) (w : World) (hc : ∀ i, i < l.length → w.cell? ⟨b, i, none⟩ = some (.int .u8 ((l.getD i 0).toNat : Int))) :
    Calls Tryz.prog 52 #[.slice (some ⟨b, 0, none⟩) l.length cap, .func (.func 51) #[] #[]] w fun e w' => e = .returned (.bool (!kAll l)) ∧ w = w' := by
  have hI := kIndex l b cap hl w hc
  clear hc
  obtain ⟨A, eA⟩ : ∃ A, kAll l = A := ⟨_, rfl⟩
  rw [eA] at hI ⊢
  clear eA
  go_enter Tryz.func52, Tryz.ntmps52
  go_wp2_with fail
  refine hI.mono ?_
  rintro e w1 ⟨r, rfl, hr, rfl⟩
  clear hI
  cases A
  · have h : ¬ r < 0 := fun hh => by have := hr.1 hh; cases this
    clear hr
    go_wp2
    go_ret
    exact ⟨ret_bool (by first | (simp; done) | (simp; omega)), rfl⟩
  · have h : r < 0 := hr.2 rfl
    clear hr
    go_wp2
    go_ret
    exact ⟨ret_bool (by first | (simp; done) | (simp; omega)), rfl⟩

theorem bytesRow_get (s : ByteArray) (cap i : Nat) (hi : i < s.size) : (bytesRow s cap)[i]? = some (.int .u8 (((bs s).getD i 0).toNat : Int)) := by
  have h' : i < (bs s).length := by rw [bs_length]; exact hi
  rw [bytesRow_at s cap i hi, getD_lt _ _ _ h']; rfl

/-- '[]byte(s)': a new block with the string's bytes. -/
theorem conv_bytes (w : World) (s : ByteArray) : ∃ W cap, (convert 9 22 (.string s)).run Tryz.prog w = .ok (.slice (some ⟨w.heap.size, 0, none⟩) s.size cap) W ∧ Ext w W ∧ W.heap.size = w.heap.size + 1 ∧
    ∀ i, i < s.size → W.cell? ⟨w.heap.size, i, none⟩ = some (.int .u8 (((bs s).getD i 0).toNat : Int)) := by
  refine ⟨_, _, run_bytes_of_string w _ _ _ s Tryz.underlying9 Tryz.underlying22 Tryz.underlying5, (Ext.refl w).drew.alloc _, ?_, fun i hi => ?_⟩
  · simp
  · rw [show (⟨w.heap.size, i, none⟩ : Addr) = ⟨w.drew.heap.size, i, none⟩ from rfl, World.cell?_alloc_mark]; exact bytesRow_get s _ i hi

set_option maxRecDepth 100000 in
set_option maxHeartbeats 1600000 in
theorem pKey (s : ByteArray) (w : World) :
    Calls Tryz.prog 29 #[.string s] w fun e w' => e = .returned (.bool (kRight (bs s))) ∧ Ext w w' := by
  have hlen := bs_length s
  by_cases h1 : s.size < 1
  · have E : Hid (kRight (bs s) = false) := Lib.hid (by unfold kRight; rw [hlen]; simp; omega)
    go_enter Tryz.func29, Tryz.ntmps29
    go_wp2
    go_ret
    exact ⟨ret_bool E.out.symm, Ext.refl _⟩
  by_cases h2 : 128 < s.size
  · have E : Hid (kRight (bs s) = false) := Lib.hid (by unfold kRight; rw [hlen]; simp; omega)
    go_enter Tryz.func29, Tryz.ntmps29
    go_wp2
    go_ret
    exact ⟨ret_bool E.out.symm, Ext.refl _⟩
  obtain ⟨W, cap, hrun, hE, hz, hc⟩ := conv_bytes w s
  rw [← hlen] at hc
  have hK := kContains (bs s) w.heap.size cap (by omega) W hc
  have e2 : kRight (bs s) = kAll (bs s) := by unfold kRight kAll; rw [hlen]; simp; omega
  rw [hlen] at hK
  rw [e2]
  clear hc e2 hlen
  go_enter Tryz.func29, Tryz.ntmps29
  obtain ⟨A, eA⟩ : ∃ A, kAll (bs s) = A := ⟨_, rfl⟩
  rw [eA] at hK
  rw [eA]
  clear eA
  go_wp2_with fail
  refine hK.mono ?_
  rintro e w1 ⟨rfl, rfl⟩
  clear hK
  cases A
  all_goals
    go_wp2
    go_ret
    exact ⟨ret_bool rfl, hE⟩

end Go.Proofs.YtdgcgpapcbjfhaaGreatDoor

/- Pieces between blanks; what is asked: plain lists of bytes, no program in sight. -/
namespace Go.Proofs.YtdgcgpapcbjfhaaGreatDoor

/-- the pieces between blanks -/
def cuts : List UInt8 → List (List UInt8)
  | [] => [ [] ]
  | c :: l => if c = 32 then [] :: cuts l else match cuts l with
    | [] => [ [c] ]
    | p :: ps => (c :: p) :: ps

theorem cuts_cons32 (l : List UInt8) : cuts (32 :: l) = [] :: cuts l := by rw [cuts]; simp
theorem cuts_cons {c : UInt8} {l p : List UInt8} {ps : List (List UInt8)} (hc : c ≠ 32) (h : cuts l = p :: ps) : cuts (c :: l) = (c :: p) :: ps := by rw [cuts, if_neg hc, h]

theorem cuts_ne (l : List UInt8) : ∃ p ps, cuts l = p :: ps := by
  cases l with
  | nil => exact ⟨_, _, rfl⟩
  | cons c l =>
    unfold cuts
    split
    · exact ⟨_, _, rfl⟩
    · split <;> exact ⟨_, _, rfl⟩

theorem cuts_none : ∀ (p : List UInt8), (∀ c ∈ p, c ≠ 32) → cuts p = [p]
  | [], _ => rfl
  | c :: p, h => by
    unfold cuts
    rw [if_neg (h c (by simp)), cuts_none p (fun x hx => h x (by simp [hx]))]

theorem cuts_blank : ∀ (p r : List UInt8), (∀ c ∈ p, c ≠ 32) → cuts (p ++ 32 :: r) = p :: cuts r
  | [], r, _ => by simp [cuts]
  | c :: p, r, h => by
    rw [List.cons_append]
    exact cuts_cons (h c (by simp)) (cuts_blank p r (fun x hx => h x (by simp [hx])))

def spIdx (l : List UInt8) : Int := Lib.indexByte l 32

theorem spIdx_cases : ∀ (l : List UInt8), (spIdx l = -1 ∧ ∀ c ∈ l, c ≠ 32) ∨ ∃ i : Nat, spIdx l = i ∧ i < l.length ∧ l.getD i 0 = 32 ∧ ∀ c ∈ l.take i, c ≠ 32
  | [] => .inl ⟨rfl, by simp⟩
  | b :: l => by
    by_cases hb : b = 32
    · refine .inr ⟨0, ?_, by simp, by simp [hb], by simp⟩
      unfold spIdx Lib.indexByte; simp [hb]
    · rcases spIdx_cases l with ⟨h1, h2⟩ | ⟨i, h1, h2, h3, h4⟩
      · refine .inl ⟨?_, ?_⟩
        · unfold spIdx Lib.indexByte; unfold spIdx at h1; simp [hb, h1]
        · intro c hc; simp at hc; rcases hc with rfl | hc; exact hb; exact h2 c hc
      · refine .inr ⟨i + 1, ?_, by simp; omega, by simpa using h3, ?_⟩
        · unfold spIdx Lib.indexByte; unfold spIdx at h1
          have : ¬ ((i : Int) = -1) := by omega
          simp [hb, h1, this]
        · intro c hc; simp at hc; rcases hc with rfl | hc; exact hb; exact h4 c hc

theorem split_at {l : List UInt8} {i : Nat} (h : i < l.length) (h32 : l.getD i 0 = 32) : l = l.take i ++ 32 :: l.drop (i + 1) := by
  have h1 : l.drop i = 32 :: l.drop (i + 1) := by
    rw [List.drop_eq_getElem_cons h]
    rw [getD_lt _ _ _ h] at h32; rw [h32]
  have h2 := List.take_append_drop i l
  rw [h1] at h2; exact h2.symm

theorem cuts_idx {l : List UInt8} {i : Nat} (h : i < l.length) (h32 : l.getD i 0 = 32) (hn : ∀ c ∈ l.take i, c ≠ 32) : cuts l = l.take i :: cuts (l.drop (i + 1)) := by
  have := cuts_blank (l.take i) (l.drop (i + 1)) hn
  rw [← split_at h h32] at this; exact this

/-- "CHECK" and "CHECK " -/
def CHK : List UInt8 := [67, 72, 69, 67, 75]
def CHKS : List UInt8 := [67, 72, 69, 67, 75, 32]

theorem cuts_join : ∀ (l p q : List UInt8) (ps : List (List UInt8)), cuts l = p :: q :: ps → ∃ r, l = p ++ 32 :: r ∧ cuts r = q :: ps
  | [], p, q, ps, h => by simp [cuts] at h
  | c :: l, p, q, ps, h => by
    unfold cuts at h
    by_cases hc : c = 32
    · rw [if_pos hc] at h; simp at h
      exact ⟨l, by rw [hc, h.1]; rfl, h.2⟩
    · rw [if_neg hc] at h
      obtain ⟨p', ps', e⟩ := cuts_ne l
      rw [e] at h
      simp at h
      obtain ⟨r, hr, hr2⟩ := cuts_join l p' q ps (by rw [e, h.2])
      exact ⟨r, by rw [hr, ← h.1]; rfl, hr2⟩

theorem cuts_chk (r : List UInt8) : cuts (CHKS ++ r) = CHK :: cuts r := cuts_blank CHK r (by decide)

/-- what is asked: the key, how many, the error -/
def aE (l : List UInt8) : Int := match cuts l with
  | [v, k, c] => if v = CHK then (if kRight k then dE c else 12) else 13
  | _ => 13
def aK (l : List UInt8) : List UInt8 := match cuts l with
  | [_, k, _] => if aE l = 0 then k else []
  | _ => []
def aV (l : List UInt8) : Int := match cuts l with
  | [_, _, c] => if aE l = 0 then dV c else 0
  | _ => 0

theorem cuts_len : ∀ (l p : List UInt8), p ∈ cuts l → p.length ≤ l.length
  | [], p, h => by simp [cuts] at h; simp [h]
  | c :: l, p, h => by
    by_cases hc : c = 32
    · subst hc; rw [cuts_cons32] at h; simp at h
      rcases h with rfl | h
      · simp
      · have := cuts_len l p h; simp; omega
    · obtain ⟨q, qs, e⟩ := cuts_ne l
      rw [cuts_cons hc e] at h; simp at h
      rcases h with rfl | h
      · have := cuts_len l q (by rw [e]; simp); simp; omega
      · have := cuts_len l p (by rw [e]; simp [h]); simp; omega

theorem dV_of_err {l : List UInt8} (h : dE l ≠ 0) : dV l = 0 := by
  unfold dE at h; unfold dV
  split
  · rfl
  · rename_i hb; rw [if_neg hb] at h; split
    · rename_i h2; rw [if_pos h2] at h; exact absurd rfl h
    · rfl

end Go.Proofs.YtdgcgpapcbjfhaaGreatDoor

/- Words of a text, by lines: plain lists, no program in sight. -/
namespace Go.Proofs.YtdgcgpapcbjfhaaGreatDoor

/-- a word, and where it stands -/
structure Wd where
  txt : List UInt8
  ln : Nat
  col : Nat

def wKind (c : UInt8) : Nat := if c = 10 then 2 else if c = 32 ∨ c = 9 then 1 else if 33 ≤ c.toNat ∧ c.toNat ≤ 126 then 0 else 3

def flushW (t : List UInt8) (n j : Nat) (p : List Wd × Option Nat) : List Wd := match p.2 with
  | none => p.1
  | some i => p.1 ++ [⟨(t.drop i).take (j - i), n, i + 1⟩]

/-- the first j bytes of a line: whole words, and where the one that is not yet whole begins -/
def lsc (t : List UInt8) (n : Nat) : Nat → List Wd × Option Nat
  | 0 => ([], none)
  | j + 1 => if wKind (t.getD j 0) = 0 then ((lsc t n j).1, some ((lsc t n j).2.getD j)) else (flushW t n j (lsc t n j), none)

def lineW (t : List UInt8) (n j : Nat) : List Wd := flushW t n j (lsc t n j)

/-- is there nothing to lay? -/
def isNote : List Wd → Bool
  | [] => true
  | w :: _ => decide (w.txt.head? = some 35)

def layW (ws : List Wd) : List (List Wd) := if isNote ws then [] else [ws]

theorem layW_nil {X R : List Wd} (h : R = if isNote X then [] else X) (hR : R = []) : layW X = [] := by
  subst hR
  unfold layW
  split
  · rfl
  · rename_i hn
    rw [if_neg hn] at h
    rw [← h] at hn; simp [isNote] at hn
theorem layW_one {X R : List Wd} (h : R = if isNote X then [] else X) (hR : R ≠ []) : layW X = [R] := by
  unfold layW
  split
  · rename_i hn; rw [if_pos hn] at h; exact absurd h hR
  · rename_i hn; rw [if_neg hn] at h; rw [h]

/-- behind k bytes of a text: the lines, the number of the next, where it begins -/
def rst (l : List UInt8) : Nat → List (List Wd) × Nat × Nat
  | 0 => ([], 1, 0)
  | k + 1 => if l.getD k 0 = 10 then ((rst l k).1 ++ layW (lineW (l.drop (rst l k).2.2) (rst l k).2.1 (k - (rst l k).2.2)), (rst l k).2.1 + 1, k + 1) else rst l k

def spAll (l : List UInt8) (k : Nat) : List (List Wd) := (rst l k).1 ++ layW (lineW (l.drop (rst l k).2.2) (rst l k).2.1 (k - (rst l k).2.2))

theorem lsc_vis {t : List UInt8} {n j : Nat} {ws : List Wd} {o : Option Nat} (h : lsc t n j = (ws, o)) (hk : wKind (t.getD j 0) = 0) : lsc t n (j + 1) = (ws, some (o.getD j)) := by
  rw [lsc, if_pos hk, h]
theorem lsc_inv {t : List UInt8} {n j : Nat} {ws : List Wd} {o : Option Nat} (h : lsc t n j = (ws, o)) (hk : wKind (t.getD j 0) ≠ 0) : lsc t n (j + 1) = (flushW t n j (ws, o), none) := by
  rw [lsc, if_neg hk, h]

theorem lsc_lt (t : List UInt8) (n : Nat) : ∀ j i, (lsc t n j).2 = some i → i < j
  | 0, i, h => by simp [lsc] at h
  | j + 1, i, h => by
    unfold lsc at h
    split at h
    · simp at h
      cases ho : (lsc t n j).2 with
      | none => rw [ho] at h; simp at h; omega
      | some i' => rw [ho] at h; simp at h; have := lsc_lt t n j i' ho; omega
    · simp at h

theorem flushW_none (t : List UInt8) (n j : Nat) (ws : List Wd) : flushW t n j (ws, none) = ws := rfl
theorem flushW_some (t : List UInt8) (n j i : Nat) (ws : List Wd) : flushW t n j (ws, some i) = ws ++ [⟨(t.drop i).take (j - i), n, i + 1⟩] := rfl

theorem flushW_take (t : List UInt8) (n m j : Nat) (h : j ≤ m) (p : List Wd × Option Nat) : flushW (t.take m) n j p = flushW t n j p := by
  unfold flushW
  cases p.2 with
  | none => rfl
  | some i =>
    simp only
    rw [List.drop_take, List.take_take, Nat.min_eq_left (by omega)]

theorem lsc_take (t : List UInt8) (n m : Nat) : ∀ j, j ≤ m → lsc (t.take m) n j = lsc t n j
  | 0, _ => rfl
  | j + 1, h => by
    rw [lsc, lsc, lsc_take t n m j (by omega), flushW_take t n m j (by omega)]
    have : (t.take m).getD j 0 = t.getD j 0 := by simp [List.getD, List.getElem?_take]; rw [if_pos (by omega)]
    rw [this]

theorem lineW_take (t : List UInt8) (n m : Nat) : lineW (t.take m) n m = lineW t n m := by
  unfold lineW; rw [lsc_take t n m m (Nat.le_refl _), flushW_take t n m m (Nat.le_refl _)]

/-- a word that has begun is in the line -/
theorem lsc_goes (t : List UInt8) (n m i : Nat) (ws : List Wd) (h : lsc t n m = (ws, some i)) : ∀ M, m ≤ M →
    (lsc t n M = (ws, some i) ∨ ∃ e rest, m ≤ e ∧ e ≤ M ∧ (lsc t n M).1 = ws ++ ⟨(t.drop i).take (e - i), n, i + 1⟩ :: rest)
  | 0, hM => by obtain rfl : m = 0 := by omega
                exact .inl h
  | M + 1, hM => by
    by_cases hm : m = M + 1
    · subst hm; exact .inl h
    rcases lsc_goes t n m i ws h M (by omega) with h1 | ⟨e, rest, h1, h2, h3⟩
    · by_cases hk : wKind (t.getD M 0) = 0
      · exact .inl (by rw [lsc_vis h1 hk]; rfl)
      · refine .inr ⟨M, [], by omega, by omega, ?_⟩
        rw [lsc_inv h1 hk]; rfl
    · refine .inr ?_
      by_cases hk : wKind (t.getD M 0) = 0
      · exact ⟨e, rest, h1, by omega, by rw [lsc, if_pos hk]; exact h3⟩
      · rw [lsc, if_neg hk]
        unfold flushW
        cases (lsc t n M).2 with
        | none => exact ⟨e, rest, h1, by omega, h3⟩
        | some i' => refine ⟨e, rest ++ [⟨(t.drop i').take (M - i'), n, i' + 1⟩], h1, by omega, ?_⟩; simp only; rw [h3]; simp

theorem note_of_first (t : List UInt8) (n m i M : Nat) (h : lsc t n m = ([], some i)) (hM : m ≤ M) (ht : i < t.length) (h35 : t.getD i 0 = 35) : isNote (lineW t n M) = true := by
  have him : i < m := lsc_lt t n m i (by rw [h])
  have hw : ∀ e, m ≤ e → ((t.drop i).take (e - i)).head? = some 35 := by
    intro e he
    rw [List.head?_take, if_neg (by omega), List.head?_drop]
    rw [getD_lt _ _ _ ht] at h35
    rw [List.getElem?_eq_getElem ht, h35]
  unfold lineW
  rcases lsc_goes t n m i [] h M hM with h1 | ⟨e, rest, h1, h2, h3⟩
  · rw [h1, flushW_some]; simp [isNote]; have := hw M hM; simpa using this
  · have : ∃ rest', flushW t n M (lsc t n M) = ⟨(t.drop i).take (e - i), n, i + 1⟩ :: rest' := by
      unfold flushW
      cases (lsc t n M).2 with
      | none => exact ⟨rest, by simpa using h3⟩
      | some i' => refine ⟨rest ++ [⟨(t.drop i').take (M - i'), n, i' + 1⟩], ?_⟩; simp only; rw [h3]; simp
    obtain ⟨rest', e'⟩ := this
    rw [e']; simp [isNote]; have := hw e h1; simpa using this

/-- words are no empty ones, and lie in the line -/
def okW (ws : List Wd) : Prop := ∀ w ∈ ws, w.txt ≠ []
theorem flushW_ok {t : List UInt8} {n j : Nat} {ws : List Wd} {o : Option Nat} (h : okW ws) (hj : j ≤ t.length) (ho : ∀ i, o = some i → i < j) : okW (flushW t n j (ws, o)) := by
  cases o with
  | none => exact h
  | some i =>
    intro w hw
    rw [flushW_some] at hw
    simp at hw
    rcases hw with hw | rfl
    · exact h w hw
    · have := ho i rfl
      intro hh
      have := congrArg List.length hh
      simp at this; omega
theorem lsc_ok (t : List UInt8) (n : Nat) : ∀ j, j ≤ t.length → okW (lsc t n j).1
  | 0, _ => by intro w hw; simp [lsc] at hw
  | j + 1, h => by
    unfold lsc
    split
    · exact lsc_ok t n j (by omega)
    · exact flushW_ok (lsc_ok t n j (by omega)) (by omega) (lsc_lt t n j)
theorem lineW_ok {t : List UInt8} {n j : Nat} (h : j ≤ t.length) : okW (lineW t n j) := flushW_ok (lsc_ok t n j h) h (lsc_lt t n j)

theorem flushW_len (t : List UInt8) (n j : Nat) (p : List Wd × Option Nat) : (flushW t n j p).length ≤ p.1.length + 1 := by
  unfold flushW; cases p.2 <;> simp
theorem lsc_len (t : List UInt8) (n : Nat) : ∀ j, (lsc t n j).1.length ≤ j
  | 0 => by simp [lsc]
  | j + 1 => by
    have := lsc_len t n j
    unfold lsc
    split
    · simp; omega
    · have := flushW_len t n j (lsc t n j); simp; omega
theorem lineW_len (t : List UInt8) (n j : Nat) : (lineW t n j).length ≤ j + 1 := by
  have := lsc_len t n j; have := flushW_len t n j (lsc t n j); unfold lineW; omega

theorem layW_len (ws : List Wd) : (layW ws).length ≤ 1 := by unfold layW; split <;> simp

theorem rst_props (l : List UInt8) : ∀ k, k ≤ l.length → (rst l k).2.2 ≤ k ∧ 1 ≤ (rst l k).2.1 ∧ (rst l k).2.1 ≤ k + 1 ∧ (rst l k).1.length ≤ k ∧ (∀ ws ∈ (rst l k).1, ws ≠ [] ∧ okW ws ∧ ws.length ≤ l.length + 1 ∧ isNote ws = false)
  | 0, _ => by simp [rst]
  | k + 1, h => by
    obtain ⟨h1, h2, h3, h4, h5⟩ := rst_props l k (by omega)
    unfold rst
    split
    · refine ⟨Nat.le_refl _, by simp, by simp; omega, ?_, ?_⟩
      · have := layW_len (lineW (l.drop (rst l k).2.2) (rst l k).2.1 (k - (rst l k).2.2)); simp; omega
      · intro ws hws
        simp at hws
        rcases hws with hws | hws
        · exact h5 ws hws
        · unfold layW at hws
          split at hws
          · simp at hws
          · rename_i hn
            simp at hws
            have hok := lineW_ok (t := l.drop (rst l k).2.2) (n := (rst l k).2.1) (j := k - (rst l k).2.2) (by simp; omega)
            have hln := lineW_len (l.drop (rst l k).2.2) (rst l k).2.1 (k - (rst l k).2.2)
            rw [← hws] at hok hn hln
            refine ⟨?_, hok, by omega, by simpa using hn⟩
            rintro rfl; simp [isNote] at hn
    · exact ⟨by omega, h2, by omega, by omega, h5⟩

theorem spAll_props (l : List UInt8) (k : Nat) (h : k ≤ l.length) : (spAll l k).length ≤ k + 1 ∧ ∀ ws ∈ spAll l k, ws ≠ [] ∧ okW ws ∧ ws.length ≤ l.length + 1 ∧ isNote ws = false := by
  obtain ⟨h1, h2, h3, h4, h5⟩ := rst_props l k h
  unfold spAll
  refine ⟨?_, ?_⟩
  · have := layW_len (lineW (l.drop (rst l k).2.2) (rst l k).2.1 (k - (rst l k).2.2)); simp; omega
  · intro ws hws
    simp at hws
    rcases hws with hws | hws
    · exact h5 ws hws
    · unfold layW at hws
      split at hws
      · simp at hws
      · rename_i hn
        simp at hws
        have hok := lineW_ok (t := l.drop (rst l k).2.2) (n := (rst l k).2.1) (j := k - (rst l k).2.2) (by simp; omega)
        have hln := lineW_len (l.drop (rst l k).2.2) (rst l k).2.1 (k - (rst l k).2.2)
        rw [← hws] at hok hn hln
        refine ⟨?_, hok, by omega, by simpa using hn⟩
        rintro rfl; simp [isNote] at hn

theorem rst_end {l : List UInt8} {k : Nat} (h : l.getD k 0 = 10) : rst l (k + 1) = (spAll l k, (rst l k).2.1 + 1, k + 1) := by rw [rst, if_pos h]; rfl
theorem rst_go {l : List UInt8} {k : Nat} (h : l.getD k 0 ≠ 10) : rst l (k + 1) = rst l k := by rw [rst, if_neg h]

/-- in a line there is no end -/
theorem rst_line (l : List UInt8) : ∀ k i, (rst l k).2.2 ≤ i → i < k → l.getD i 0 ≠ 10
  | 0, i, _, h => by omega
  | k + 1, i, h1, h2 => by
    by_cases h10 : l.getD k 0 = 10
    · rw [rst_end h10] at h1; simp at h1; omega
    · rw [rst_go h10] at h1
      by_cases he : i = k
      · subst he; exact h10
      · exact rst_line l k i h1 (by omega)

/-- words lie in the text -/
def inW (n : Nat) (ws : List Wd) : Prop := ∀ w ∈ ws, w.txt.length ≤ n
theorem flushW_in {t : List UInt8} {n j : Nat} {ws : List Wd} {o : Option Nat} (h : inW t.length ws) : inW t.length (flushW t n j (ws, o)) := by
  cases o with
  | none => exact h
  | some i =>
    intro w hw
    rw [flushW_some] at hw
    simp at hw
    rcases hw with hw | rfl
    · exact h w hw
    · simp; omega
theorem lsc_in (t : List UInt8) (n : Nat) : ∀ j, inW t.length (lsc t n j).1
  | 0 => by intro w hw; simp [lsc] at hw
  | j + 1 => by
    unfold lsc
    split
    · exact lsc_in t n j
    · exact flushW_in (lsc_in t n j)
theorem lineW_in (t : List UInt8) (n j : Nat) : inW t.length (lineW t n j) := flushW_in (lsc_in t n j)
theorem layW_in {l : List UInt8} {f n j : Nat} : ∀ ws ∈ layW (lineW (l.drop f) n j), inW l.length ws := by
  intro ws hws
  unfold layW at hws
  split at hws
  · simp at hws
  · simp at hws
    subst hws
    intro w hw
    have := lineW_in (l.drop f) n j w hw
    simp at this; omega
theorem rst_in (l : List UInt8) : ∀ k, ∀ ws ∈ (rst l k).1, inW l.length ws
  | 0 => by simp [rst]
  | k + 1 => by
    unfold rst
    split
    · intro ws hws
      simp at hws
      rcases hws with hws | hws
      · exact rst_in l k ws hws
      · exact layW_in ws hws
    · exact rst_in l k

/-- the first byte that may not be -/
def badAt (l : List UInt8) : Nat := l.findIdx (fun c => decide (wKind c = 3))
def spE (l : List UInt8) : Int := if badAt l < l.length then 20 else 0
def spLn (l : List UInt8) : Int := if badAt l < l.length then (rst l (badAt l)).2.1 else 0
def spCol (l : List UInt8) : Int := if badAt l < l.length then ((badAt l - (rst l (badAt l)).2.2 + 1 : Nat) : Int) else 0
def spLines (l : List UInt8) : List (List Wd) := if badAt l < l.length then [] else spAll l l.length

def clean (l : List UInt8) (k : Nat) : Prop := ∀ i, i < k → wKind (l.getD i 0) ≠ 3
theorem clean_zero (l : List UInt8) : clean l 0 := fun i h => by omega
theorem clean_succ {l : List UInt8} {k : Nat} (h : clean l k) (hk : wKind (l.getD k 0) ≠ 3) : clean l (k + 1) := fun i hi => by
  by_cases he : i = k
  · subst he; exact hk
  · exact h i (by omega)

theorem badAt_here {l : List UInt8} {k : Nat} (h : clean l k) (hk : k < l.length) (hb : wKind (l.getD k 0) = 3) : badAt l = k := by
  unfold badAt
  rw [List.findIdx_eq hk]
  rw [getD_lt _ _ _ hk] at hb
  refine ⟨by simpa using hb, fun j hj => ?_⟩
  have := h j hj
  rw [getD_lt _ _ _ (by omega)] at this
  simpa using this
theorem badAt_none {l : List UInt8} (h : clean l l.length) : ¬ badAt l < l.length := by
  unfold badAt
  intro hh
  have := List.findIdx_getElem (w := hh)
  have h2 := h _ hh
  rw [getD_lt _ _ _ hh] at h2
  simp at this
  exact h2 this

theorem sp_bad {l : List UInt8} {k : Nat} (h : clean l k) (hk : k < l.length) (hb : wKind (l.getD k 0) = 3) : spE l = 20 ∧ spLn l = (rst l k).2.1 ∧ spCol l = ((k - (rst l k).2.2 + 1 : Nat) : Int) ∧ spLines l = [] := by
  have e := badAt_here h hk hb
  unfold spE spLn spCol spLines
  rw [e, if_pos hk, if_pos hk, if_pos hk, if_pos hk]
  exact ⟨rfl, rfl, rfl, rfl⟩
theorem sp_good {l : List UInt8} (h : clean l l.length) : spE l = 0 ∧ spLn l = 0 ∧ spCol l = 0 ∧ spLines l = spAll l l.length := by
  have e := badAt_none h
  unfold spE spLn spCol spLines
  rw [if_neg e, if_neg e, if_neg e, if_neg e]
  exact ⟨rfl, rfl, rfl, rfl⟩

theorem spLines_props (l : List UInt8) : (spLines l).length ≤ l.length + 1 ∧ ∀ ws ∈ spLines l, ws ≠ [] ∧ okW ws ∧ ws.length ≤ l.length + 1 ∧ isNote ws = false := by
  unfold spLines
  split
  · simp
  · exact spAll_props l l.length (Nat.le_refl _)

theorem spLines_in (l : List UInt8) : ∀ ws ∈ spLines l, inW l.length ws := by
  unfold spLines
  split
  · simp
  · unfold spAll
    intro ws hws
    simp at hws
    rcases hws with hws | hws
    · exact rst_in l _ ws hws
    · exact layW_in ws hws

end Go.Proofs.YtdgcgpapcbjfhaaGreatDoor
