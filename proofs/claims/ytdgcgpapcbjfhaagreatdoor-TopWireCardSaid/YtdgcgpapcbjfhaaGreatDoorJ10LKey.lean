/- A key of choices. -/
import Derived.Test.YtdgcgpapcbjfhaaGreatDoorJ04Lines
import Derived.Test.YtdgcgpapcbjfhaaGreatDoorJ03DigR
import Derived.RegionTactic
import Derived.Lib.Strings
import Derived.BigQuiet
import Derived.Laws.Externs
import Derived.Lib.Bytealg
set_option linter.unusedVariables false
set_option linter.unusedSimpArgs false

/- What is asked, by the reference. -/
namespace Go.Proofs.YtdgcgpapcbjfhaaGreatDoor
open Go.RowKit

/-- bytes in memory -/
def IsBytes (w : World) (a : Option Addr) (l : List UInt8) : Prop := l = [] ∨ ∃ b off, a = some ⟨b, off, none⟩ ∧ ∀ i, i < l.length → w.cell? ⟨b, off + i, none⟩ = some (.int .u8 ((l.getD i 0).toNat : Int))
theorem IsBytes.ext {w w' : World} {a : Option Addr} {l : List UInt8} (h : IsBytes w a l) (hx : Ext w w') : IsBytes w' a l := by
  rcases h with h | ⟨b, off, e, hc⟩
  · exact .inl h
  · exact .inr ⟨b, off, e, fun i hi => hx.reads (hc i hi)⟩

def strOf (l : List UInt8) : ByteArray := ⟨l.toArray⟩
theorem bs_strOf (l : List UInt8) : bs (strOf l) = l := by simp [bs, strOf]

theorem conv_str {w : World} {a : Option Addr} {l : List UInt8} (cap : Nat) (h : IsBytes w a l) : (convert 22 9 (.slice a l.length cap)).run Tryz.prog w = .ok (.string (strOf l)) w := by
  rcases h with rfl | ⟨b, off, rfl, hc⟩
  · cases a with
    | none => exact run_convert_bytes_nil w _ _ Tryz.underlying22 Tryz.underlying5 _ _ _ Tryz.underlying9
    | some a => exact run_convert_bytes_back w _ _ _ a cap [] Tryz.underlying22 Tryz.underlying5 Tryz.underlying9 (fun j hj => by simp at hj)
  · refine run_convert_bytes_back w _ _ _ ⟨b, off, none⟩ cap l Tryz.underlying22 Tryz.underlying5 Tryz.underlying9 (fun j hj => ?_)
    have := hc j hj
    rw [getD_lt _ _ _ hj] at this
    rw [show (⟨b, off, none⟩ : Addr).add j = ⟨b, off + j, none⟩ by unfold Addr.add; split <;> simp_all]
    exact this

theorem infoS : (Tryz.prog.info? 9).map (fun i => (i.zero, i.size, i.bytes)) = some (some (.string ⟨#[]⟩), 1, 16) := by kernel_rfl

theorem bs_extract (s : ByteArray) (a b : Nat) : bs (s.extract a b) = ((bs s).drop a).take (b - a) := Lib.extract_data s a b
theorem bs_extract_end (s : ByteArray) (a : Nat) : bs (s.extract a s.size) = (bs s).drop a := by
  rw [bs_extract]; exact List.take_of_length_le (by rw [List.length_drop, bs_length]; exact Nat.le_refl _)

theorem map_string_get (ws : List ByteArray) {i : Nat} (h : i < ws.length) : (ws.map Value.string).getD i undef = .string (ws.getD i ByteArray.empty) := by
  rw [getD_lt _ _ _ (by simpa using h), getD_lt _ _ _ h]; simp

/-- between two rounds: the pieces so far, the place of the next -/
def cutInv (l : List UInt8) (k f : Nat) (ws : List ByteArray) : Prop := f ≤ k ∧ ws.length ≤ k ∧ (∀ c ∈ (l.drop f).take (k - f), c ≠ 32) ∧ ws.map bs ++ cuts (l.drop f) = cuts l

theorem cutInv_blank {s : ByteArray} {k f : Nat} {ws : List ByteArray} (h : cutInv (bs s) k f ws) (hk : k < s.size) (hb : (bs s).getD k 0 = 32) : cutInv (bs s) (k + 1) (k + 1) (ws ++ [s.extract f k]) := by
  obtain ⟨h1, h2, h3, h4⟩ := h
  have hl := bs_length s
  refine ⟨Nat.le_refl _, by simp; omega, by simp, ?_⟩
  rw [List.map_append, List.append_assoc, ← h4]
  congr 1
  have e : cuts ((bs s).drop f) = ((bs s).drop f).take (k - f) :: cuts (((bs s).drop f).drop (k - f + 1)) := by
    refine cuts_idx (by rw [List.length_drop, hl]; omega) ?_ h3
    simp [List.getD] at hb ⊢
    rw [show f + (k - f) = k by omega]; exact hb
  rw [e, List.drop_drop, show f + (k - f + 1) = k + 1 by omega]
  simp [bs_extract]

theorem cutInv_step {l : List UInt8} {k f : Nat} {ws : List ByteArray} (h : cutInv l k f ws) (hk : k < l.length) (hb : l.getD k 0 ≠ 32) : cutInv l (k + 1) f ws := by
  obtain ⟨h1, h2, h3, h4⟩ := h
  refine ⟨by omega, by omega, ?_, h4⟩
  intro c hc
  rw [show k + 1 - f = (k - f) + 1 by omega, take_snoc _ _ (by rw [List.length_drop]; omega)] at hc
  simp only [List.mem_append, List.mem_singleton] at hc
  rcases hc with hc | hc
  · exact h3 c hc
  · rw [hc]; simp [List.getD] at hb ⊢; rw [show f + (k - f) = k by omega]; exact hb

theorem cutInv_end {s : ByteArray} {f : Nat} {ws : List ByteArray} (h : cutInv (bs s) s.size f ws) : (ws ++ [s.extract f s.size]).map bs = cuts (bs s) := by
  obtain ⟨h1, h2, h3, h4⟩ := h
  have hl := bs_length s
  rw [List.take_of_length_le (by rw [List.length_drop, hl]; exact Nat.le_refl _)] at h3
  rw [cuts_none _ h3] at h4
  rw [← h4, List.map_append]
  simp [bs_extract_end]

set_option maxRecDepth 100000 in
set_option maxHeartbeats 2000000 in
theorem rCut (s : ByteArray) (hs : s.size ≤ 1000000) (w : World) :
    Calls Tryz.prog 31 #[.string s] w fun e w' => ∃ (ws : List ByteArray) (g cap : Nat), e = .returned (.slice (some ⟨g, 0, none⟩) ws.length cap) ∧ ws.length ≤ cap ∧ cap ≤ maxLen ∧ ws.map bs = cuts (bs s) ∧
      (∀ i, i < ws.length → w'.cell? ⟨g, i, none⟩ = some (.string (ws.getD i ByteArray.empty))) ∧ Ext w w' := by
  obtain ⟨i0, hi, hz0, hz1, hz2⟩ := info_parts infoS
  have hlen := bs_length s
  go_enter Tryz.func31, Tryz.ntmps31
  go_wp2
  go_loopw [3, 4, 5] (fun out fr i wr => ∃ (k f : Nat) (ws : List ByteArray), k ≤ s.size ∧ f ≤ k ∧ i = .int .i64 k ∧ fr = .int .i64 f ∧ Hid (cutInv (bs s) k f ws) ∧ wr.ownsRow w.heap.size 9 1 out ws.length (ws.map Value.string) ∧ Ext w wr) (fun _ _ i _ => s.size - (intOf i).toNat)
  case atStart => exact ⟨0, 0, [], Nat.zero_le _, Nat.le_refl _, rfl, rfl, Lib.hid ⟨by omega, by simp, by simp, by simp⟩, World.ownsRow_nil _ _ _ _, Ext.refl _⟩
  case round =>
    obtain ⟨k, f, ws, hk, hf, rfl, rfl, hI, hown, hx⟩ := hrel
    have hwl : ws.length ≤ 1000000 := by have := hI.out.2.1; omega
    have HB := fun (wx : World) (p : ByteArray) => cell_one_new wx (.string p) 9
    by_cases hlt : k < s.size
    · obtain ⟨p, hp⟩ : ∃ p : Nat, s[k].toNat = p := ⟨_, rfl⟩
      have hlk : k < (bs s).length := by rw [hlen]; exact hlt
      by_cases h32 : p = 32
      · subst h32
        have hN := Lib.hid (cutInv_blank hI.out hlt (by have := bs_at s k hlt; rw [this] at hp; exact UInt8.toNat_inj.1 hp))
        clear hlk hI
        go_wp2_with (at_builtin; refine wpList_append_own _ rfl _ _ 51 rfl w.heap.size 9 i0 (.string ⟨#[]⟩) 1 16 Tryz.underlying51 hi hz0 hz1 hz2 rfl (by decide) _ _ _ rfl (hown.alloc _) ⟨wr.heap.size, 0, none⟩ 1 1 [.string (s.extract f k)] rfl rfl ?c1 ?c2 ?c3 ?c4 ?c5 ?_)
        case c1 => exact HB _ _
        case c2 => simp [Value.oneCell']
        case c3 => unfold maxLen; omega
        case c4 => omega
        case c5 => have := hx.size; simp; omega
        intro v' w1 hown1 hgrow1 _
        have hext2 := ext_grown hx hown hgrow1
        have hown2 : w1.ownsRow w.heap.size 9 1 v' (ws ++ [s.extract f k]).length ((ws ++ [s.extract f k]).map Value.string) := by
          rw [List.length_append, List.map_append]; exact hown1
        clear hown hx hown1 hgrow1
        go_wp2
        go_roundw
        case rel => exact ⟨k + 1, k + 1, _, by omega, Nat.le_refl _, by go_num, by go_num, hN, hown2, hext2⟩
        case measure => simp [intOf]; omega
      · have hN := Lib.hid (cutInv_step hI.out hlk (by rw [← bs_at s k hlt]; intro hh; apply h32; rw [← hp, hh]; rfl))
        have hne : ((p : Int) == 32) = false := beq_eq_false_iff_ne.2 (by omega)
        clear hlk hI
        go_wp2
        go_roundw
        case rel => exact ⟨k + 1, f, ws, by omega, by omega, by go_num, rfl, hN, hown, hx⟩
        case measure => simp [intOf]; omega
    · obtain rfl : k = s.size := by omega
      have hN := Lib.hid (cutInv_end hI.out)
      clear hI
      go_wp2_with (at_builtin; refine wpList_append_own _ rfl _ _ 51 rfl w.heap.size 9 i0 (.string ⟨#[]⟩) 1 16 Tryz.underlying51 hi hz0 hz1 hz2 rfl (by decide) _ _ _ rfl (hown.alloc _) ⟨wr.heap.size, 0, none⟩ 1 1 [.string (s.extract f s.size)] rfl rfl ?c1 ?c2 ?c3 ?c4 ?c5 ?_)
      case c1 => exact HB _ _
      case c2 => simp [Value.oneCell']
      case c3 => unfold maxLen; omega
      case c4 => omega
      case c5 => have := hx.size; simp; omega
      intro v' w1 hown1 hgrow1 _
      have hext2 := ext_grown hx hown hgrow1
      clear hown hx hgrow1
      obtain ⟨g, cp, rfl, hn1, hn2, hcs⟩ := own_cells hown1 (by omega)
      clear hown1
      have hC := Lib.hid hcs
      clear hcs
      go_wp2
      go_ret
      refine ⟨ws ++ [s.extract f s.size], g, cp, by rw [List.length_append]; rfl, by rw [List.length_append]; exact hn1, hn2, hN.out, fun i hi => ?_, hext2⟩
      rw [hC.out i (by rw [List.length_append] at hi; exact hi)]
      rw [show ws.map Value.string ++ [.string (s.extract f s.size)] = (ws ++ [s.extract f s.size]).map Value.string by rw [List.map_append]; rfl, map_string_get _ hi]

theorem ret_ask {k : ByteArray} {a b a' b' : Int} (h : a = a') (h' : b = b') : Ending.returned (.tuple #[.string k, .int .u64 a, .int .i64 b]) = .returned (.tuple #[.string k, .int .u64 a', .int .i64 b']) := by rw [h, h']

theorem aE_not3 {l : List UInt8} (h : (cuts l).length ≠ 3) : aE l = 13 ∧ aV l = 0 ∧ aK l = [] := by
  have e : aE l = 13 := by
    unfold aE; split
    · rename_i h2; rw [h2] at h; simp at h
    · rfl
  refine ⟨e, ?_, ?_⟩
  · unfold aV; rw [e]; split <;> simp
  · unfold aK; rw [e]; split <;> simp
theorem aE_3 {l v k c : List UInt8} (h : cuts l = [v, k, c]) : aE l = (if v = CHK then (if kRight k then dE c else 12) else 13) ∧ aV l = (if aE l = 0 then dV c else 0) ∧ aK l = (if aE l = 0 then k else []) := by
  refine ⟨?_, ?_, ?_⟩
  · unfold aE; rw [h]
  · unfold aV; rw [h]
  · unfold aK; rw [h]

def chkS : ByteArray := ⟨#[67, 72, 69, 67, 75]⟩
theorem toList_eq_chk (x : ByteArray) : x.toList = [67, 72, 69, 67, 75] ↔ bs x = CHK := by rw [toList_bs]; rfl

set_option maxRecDepth 100000 in
set_option maxHeartbeats 2000000 in
theorem rAsk (a : Option Addr) (cap : Nat) (l : List UInt8) (hl : l.length ≤ 1000000) (w : World) (hb : IsBytes w a l) :
    Calls Tryz.prog 13 #[.slice a l.length cap] w fun e w' => ∃ k : ByteArray, e = .returned (.tuple #[.string k, .int .u64 (aV l), .int .i64 (aE l)]) ∧ bs k = aK l ∧ Ext w w' := by
  have hcv := conv_str cap hb
  have hC := rCut (strOf l) (by rw [← bs_length, bs_strOf]; exact hl) w
  rw [bs_strOf] at hC
  clear hb
  go_enter Tryz.func13, Tryz.ntmps13
  go_wp2_with fail
  refine hC.mono ?_
  rintro e w1 ⟨ws, g, cp, rfl, hn1, hn2, hws, hcell, hx⟩
  clear hC hcv
  have hlen : ws.length = (cuts l).length := by rw [← hws]; simp
  by_cases h3 : ws.length = 3
  · obtain ⟨x, y, z, rfl⟩ : ∃ x y z, ws = [x, y, z] := by
      match ws, h3 with
      | [x, y, z], _ => exact ⟨x, y, z, rfl⟩
    have hcu : cuts l = [bs x, bs y, bs z] := hws.symm
    have c0 : w1.cell? ⟨g, 0, none⟩ = some (.string x) := hcell 0 (by simp)
    have c1 : w1.cell? ⟨g, 1, none⟩ = some (.string y) := hcell 1 (by simp)
    have c2 : w1.cell? ⟨g, 2, none⟩ = some (.string z) := hcell 2 (by simp)
    have hz : z.size ≤ maxLen := by
      have := cuts_len l (bs z) (by rw [hcu]; simp)
      rw [bs_length] at this; unfold maxLen; omega
    obtain ⟨E1, E2, E3⟩ := aE_3 hcu
    have hE := Lib.hid (And.intro E1 (And.intro E2 E3))
    clear hcell hws hlen hcu E1 E2 E3 h3
    simp only [List.length_cons, List.length_nil, Nat.zero_add, Nat.reduceAdd] at hn1 ⊢
    by_cases hx1 : bs x = CHK
    · have hxl : x.toList = [67, 72, 69, 67, 75] := (toList_eq_chk x).2 hx1
      have hy := rKey y
      obtain ⟨K, eK⟩ : ∃ K, kRight (bs y) = K := ⟨_, rfl⟩
      rw [eK] at hy hE
      go_wp2_with fail
      refine (hy _).mono ?_
      rintro e w2 ⟨rfl, rfl⟩
      clear eK hy
      cases K
      · have hF : Hid (aE l = 12 ∧ aV l = 0 ∧ aK l = []) := Lib.hid (by
          obtain ⟨E1, E2, E3⟩ := hE.out
          simp [hx1] at E1
          rw [E1] at E2 E3
          exact ⟨E1, by simpa using E2, by simpa using E3⟩)
        clear hE
        go_wp2
        go_ret3
        exact ⟨_, ret_ask hF.out.2.1.symm hF.out.1.symm, by rw [hF.out.2.2]; rfl, hx⟩
      · have hz' := rParse z hz w1
        obtain ⟨V, eV⟩ : ∃ V, dV (bs z) = V := ⟨_, rfl⟩
        obtain ⟨E, eE⟩ : ∃ E, dE (bs z) = E := ⟨_, rfl⟩
        have hV0 : E ≠ 0 → V = 0 := by rw [← eE, ← eV]; exact dV_of_err
        rw [eV, eE] at hz' hE
        go_wp2_with fail
        refine hz'.mono ?_
        rintro e w2 ⟨rfl, rfl⟩
        clear hz' eV eE
        have hF : Hid (aE l = E ∧ aV l = V ∧ aK l = if E = 0 then bs y else []) := Lib.hid (by
          obtain ⟨E1, E2, E3⟩ := hE.out
          simp [hx1] at E1
          rw [E1] at E2 E3
          refine ⟨E1, ?_, E3⟩
          rw [E2]; split
          · rfl
          · rename_i h; exact (hV0 h).symm)
        by_cases h0 : E = 0
        · subst h0
          clear hE hV0
          go_wp2
          go_ret3
          exact ⟨_, ret_ask hF.out.2.1.symm hF.out.1.symm, by rw [hF.out.2.2]; rfl, hx⟩
        · have hv := hV0 h0
          subst hv
          clear hE hV0
          go_wp2
          go_ret3
          exact ⟨_, ret_ask hF.out.2.1.symm hF.out.1.symm, by rw [hF.out.2.2, if_neg h0]; rfl, hx⟩
    · have hxl : (x.toList == [67, 72, 69, 67, 75]) = false := beq_eq_false_iff_ne.2 fun h => hx1 ((toList_eq_chk x).1 h)
      have hF : Hid (aE l = 13 ∧ aV l = 0 ∧ aK l = []) := Lib.hid (by
        obtain ⟨E1, E2, E3⟩ := hE.out
        simp [hx1] at E1
        rw [E1] at E2 E3
        exact ⟨E1, by simpa using E2, by simpa using E3⟩)
      clear hE
      go_wp2
      go_ret3
      exact ⟨_, ret_ask hF.out.2.1.symm hF.out.1.symm, by rw [hF.out.2.2]; rfl, hx⟩
  · obtain ⟨E1, E2, E3⟩ := aE_not3 (by rw [← hlen]; exact h3)
    have hE := Lib.hid (And.intro E1 (And.intro E2 E3))
    have hne : ¬ (ws.length : Int) = 3 := by omega
    clear hcell hws hlen E1 E2 E3
    go_wp2
    go_ret3
    exact ⟨_, ret_ask hE.out.2.1.symm hE.out.1.symm, by rw [hE.out.2.2]; rfl, hx⟩

end Go.Proofs.YtdgcgpapcbjfhaaGreatDoor

/- What is asked, by the program. -/
namespace Go.Proofs.YtdgcgpapcbjfhaaGreatDoor
open Go.RowKit

set_option maxRecDepth 100000 in
theorem pIdxB (s : ByteArray) (w : World) :
    Calls Tryz.prog 110 #[.string s, .int .u8 32] w fun e w' => e = .returned (.int .i64 (spIdx (bs s))) ∧ w = w' := by
  go_enter Tryz.func110, Tryz.ntmps110
  go_wp2
  rw [run_callFunc_extern Tryz.func150 (by kernel_rfl) (by kernel_rfl) (by kernel_rfl) (e := Extern.BytealgIndexByte.indexByte) (by kernel_rfl), Lib.run_indexByteString]
  simp only [Result.andThen]
  rw [Oper.upon_value]
  go_wp2
  go_ret
  exact ⟨rfl, rfl⟩

set_option maxRecDepth 100000 in
theorem pIdx (s : ByteArray) (w : World) :
    Calls Tryz.prog 78 #[.string s, .string ⟨#[32]⟩] w fun e w' => e = .returned (.int .i64 (spIdx (bs s))) ∧ w = w' := by
  have hI := pIdxB s
  by_cases h1 : bs s = [32]
  · have e0 : spIdx (bs s) = 0 := by rw [h1]; rfl
    have e1 : ([32] == s.toList) = true := by rw [toList_bs, h1]; rfl
    rw [e0]
    clear e0 h1 hI
    go_enter Tryz.func78, Tryz.ntmps78
    go_wp2
    go_ret
    exact ⟨rfl, rfl⟩
  have e1 : ([32] == s.toList) = false := by rw [toList_bs]; exact beq_eq_false_iff_ne.2 (Ne.symm h1)
  obtain ⟨r, er⟩ : ∃ r, spIdx (bs s) = r := ⟨_, rfl⟩
  rw [er] at hI ⊢
  clear er h1
  go_enter Tryz.func78, Tryz.ntmps78
  go_wp2_with fail
  refine (hI _).mono ?_
  rintro e w1 ⟨rfl, rfl⟩
  clear hI
  go_wp2
  go_ret
  exact ⟨rfl, rfl⟩

theorem pIndex (s : ByteArray) (w : World) :
    Calls Tryz.prog 50 #[.string s, .string ⟨#[32]⟩] w fun e w' => e = .returned (.int .i64 (spIdx (bs s))) ∧ w = w' := by
  have hI := pIdx s
  obtain ⟨r, er⟩ : ∃ r, spIdx (bs s) = r := ⟨_, rfl⟩
  rw [er] at hI ⊢
  clear er
  go_enter Tryz.func50, Tryz.ntmps50
  go_wp2_with fail
  refine (hI _).mono ?_
  rintro e w1 ⟨rfl, rfl⟩
  clear hI
  go_wp2
  go_ret
  exact ⟨rfl, rfl⟩

theorem pContains (s : ByteArray) (w : World) :
    Calls Tryz.prog 28 #[.string s, .string ⟨#[32]⟩] w fun e w' => e = .returned (.bool (decide (0 ≤ spIdx (bs s)))) ∧ w = w' := by
  have hI := pIndex s
  obtain ⟨r, er⟩ : ∃ r, spIdx (bs s) = r := ⟨_, rfl⟩
  rw [er] at hI ⊢
  clear er
  go_enter Tryz.func28, Tryz.ntmps28
  go_wp2_with fail
  refine (hI _).mono ?_
  rintro e w1 ⟨rfl, rfl⟩
  clear hI
  go_wp2
  go_ret
  exact ⟨rfl, rfl⟩

/-- strings.Cut at a blank -/
def cutB (s : ByteArray) : ByteArray := if 0 ≤ spIdx (bs s) then s.extract 0 (spIdx (bs s)).toNat else s
def cutA (s : ByteArray) : ByteArray := if 0 ≤ spIdx (bs s) then s.extract ((spIdx (bs s)).toNat + 1) s.size else ⟨#[]⟩

theorem pCutL (s : ByteArray) (hs : s.size ≤ 1000000) (w : World) :
    Calls Tryz.prog 49 #[.string s, .string ⟨#[32]⟩] w fun e w' => e = .returned (.tuple #[.string (cutB s), .string (cutA s), .bool (decide (0 ≤ spIdx (bs s)))]) ∧ Ext w w' := by
  have hI := pIdx s
  rcases spIdx_cases (bs s) with ⟨h1, h2⟩ | ⟨i, h1, h2, h3, h4⟩
  · have e1 : cutB s = s := by unfold cutB; rw [h1]; rfl
    have e2 : cutA s = ⟨#[]⟩ := by unfold cutA; rw [h1]; rfl
    rw [e1, e2, h1]
    rw [h1] at hI
    clear h1 h2 e1 e2
    go_enter Tryz.func49, Tryz.ntmps49
    go_wp2_with fail
    refine (hI _).mono ?_
    rintro e w1 ⟨rfl, rfl⟩
    clear hI
    go_wp2
    go_ret3
    exact ⟨rfl, by repeat (first | exact Ext.refl _ | assumption | apply Ext.drew | apply Ext.alloc | (refine Ext.setCell ?_ (by simp <;> omega) _) | refine Ext.trans ?_ (by assumption))⟩
  · have e1 : cutB s = s.extract 0 i := by unfold cutB; rw [h1]; rw [if_pos (by omega)]; rfl
    have e2 : cutA s = s.extract (i + 1) s.size := by unfold cutA; rw [h1]; rw [if_pos (by omega)]; rfl
    have e3 : decide (0 ≤ spIdx (bs s)) = true := by rw [h1]; simp
    rw [e1, e2, e3]
    rw [h1] at hI
    rw [bs_length] at h2
    clear h1 h3 h4 e1 e2 e3
    go_enter Tryz.func49, Tryz.ntmps49
    go_wp2_with fail
    refine (hI _).mono ?_
    rintro e w1 ⟨rfl, rfl⟩
    clear hI
    go_wp2_with fail
    go_region
    go_wp2
    go_ret3
    exact ⟨rfl, by repeat (first | exact Ext.refl _ | assumption | apply Ext.drew | apply Ext.alloc | (refine Ext.setCell ?_ (by simp <;> omega) _) | refine Ext.trans ?_ (by assumption))⟩

theorem pCut (s : ByteArray) (hs : s.size ≤ 1000000) (w : World) :
    Calls Tryz.prog 27 #[.string s, .string ⟨#[32]⟩] w fun e w' => e = .returned (.tuple #[.string (cutB s), .string (cutA s), .bool (decide (0 ≤ spIdx (bs s)))]) ∧ Ext w w' := by
  have hI := pCutL s hs
  go_enter Tryz.func27, Tryz.ntmps27
  go_wp2_with fail
  refine (hI _).mono ?_
  rintro e w1 ⟨rfl, hx⟩
  clear hI
  go_wp2
  go_ret3
  exact ⟨rfl, hx⟩

theorem pHas (s : ByteArray) (hs : s.size ≤ 1000000) (w : World) :
    Calls Tryz.prog 77 #[.string s, .string ⟨#[67, 72, 69, 67, 75, 32]⟩] w fun e w' => e = .returned (.bool (decide ((bs s).take 6 = CHKS))) ∧ w = w' := by
  by_cases h6 : 6 ≤ s.size
  · have e1 : ((s.extract 0 6).toList == [67, 72, 69, 67, 75, 32]) = decide ((bs s).take 6 = CHKS) := by
      rw [toList_bs, bs_extract]; simp only [List.drop_zero, Nat.sub_zero]
      rw [Bool.eq_iff_iff, beq_iff_eq, decide_eq_true_iff]; rfl
    obtain ⟨b, eb⟩ : ∃ b, decide ((bs s).take 6 = CHKS) = b := ⟨_, rfl⟩
    rw [eb] at e1 ⊢
    clear eb
    go_enter Tryz.func77, Tryz.ntmps77
    go_wp2
    go_ret
    exact ⟨ret_bool (by first | rfl | exact e1), rfl⟩
  · have e1 : decide ((bs s).take 6 = CHKS) = false := by
      simp; intro h; have := congrArg List.length h; simp [CHKS, bs_length] at this; omega
    rw [e1]
    clear e1
    go_enter Tryz.func77, Tryz.ntmps77
    go_wp2
    go_ret
    exact ⟨rfl, rfl⟩

/-- strings.CutPrefix of "CHECK " -/
def chkIs (s : ByteArray) : Bool := decide ((bs s).take 6 = CHKS)
def chkRest (s : ByteArray) : ByteArray := if chkIs s then s.extract 6 s.size else s

theorem chk_size {s : ByteArray} (h : chkIs s = true) : 6 ≤ s.size := by
  unfold chkIs at h; simp at h
  have := congrArg List.length h; simp [CHKS, bs_length] at this; omega

theorem pCutP (s : ByteArray) (hs : s.size ≤ 1000000) (w : World) :
    Calls Tryz.prog 48 #[.string s, .string ⟨#[67, 72, 69, 67, 75, 32]⟩] w fun e w' => e = .returned (.tuple #[.string (chkRest s), .bool (chkIs s)]) ∧ w = w' := by
  have hH := pHas s hs
  by_cases hb : chkIs s = true
  · have h6 := chk_size hb
    have e1 : chkRest s = s.extract 6 s.size := by unfold chkRest; rw [hb]; rfl
    unfold chkIs at hb
    rw [hb] at hH
    rw [e1, show chkIs s = true from hb]
    clear e1 hb
    go_enter Tryz.func48, Tryz.ntmps48
    go_wp2_with fail
    refine (hH _).mono ?_
    rintro e w1 ⟨rfl, rfl⟩
    clear hH
    go_wp2
    go_ret2
    exact ⟨rfl, rfl⟩
  · have hb : chkIs s = false := by simpa using hb
    have e1 : chkRest s = s := by unfold chkRest; rw [hb]; rfl
    unfold chkIs at hb
    rw [hb] at hH
    rw [e1, show chkIs s = false from hb]
    clear e1 hb
    go_enter Tryz.func48, Tryz.ntmps48
    go_wp2_with fail
    refine (hH _).mono ?_
    rintro e w1 ⟨rfl, rfl⟩
    clear hH
    go_wp2
    go_ret2
    exact ⟨rfl, rfl⟩

theorem pCutPrefix (s : ByteArray) (hs : s.size ≤ 1000000) (w : World) :
    Calls Tryz.prog 26 #[.string s, .string ⟨#[67, 72, 69, 67, 75, 32]⟩] w fun e w' => e = .returned (.tuple #[.string (chkRest s), .bool (chkIs s)]) ∧ w = w' := by
  have hI := pCutP s hs
  go_enter Tryz.func26, Tryz.ntmps26
  go_wp2_with fail
  refine (hI _).mono ?_
  rintro e w1 ⟨rfl, rfl⟩
  clear hI
  go_wp2
  go_ret2
  exact ⟨rfl, rfl⟩

theorem chk_no {s : ByteArray} (h : chkIs s = false) : aE (bs s) = 13 ∧ aV (bs s) = 0 ∧ aK (bs s) = [] := by
  by_cases h3 : (cuts (bs s)).length = 3
  · obtain ⟨v, k, c, e⟩ : ∃ v k c, cuts (bs s) = [v, k, c] := by
      match hc : cuts (bs s), h3 with
      | [v, k, c], _ => exact ⟨v, k, c, rfl⟩
    have hv : v ≠ CHK := by
      rintro rfl
      obtain ⟨r, hr, _⟩ := cuts_join _ _ _ _ e
      unfold chkIs at h
      rw [hr] at h; simp [CHK, CHKS] at h
    obtain ⟨E1, E2, E3⟩ := aE_3 e
    rw [if_neg hv] at E1
    rw [E1] at E2 E3
    exact ⟨E1, by simpa using E2, by simpa using E3⟩
  · exact aE_not3 h3

theorem chk_cuts {s : ByteArray} (h : chkIs s = true) : cuts (bs s) = CHK :: cuts (bs (chkRest s)) ∧ (chkRest s).size ≤ s.size := by
  have h6 := chk_size h
  have e1 : chkRest s = s.extract 6 s.size := by unfold chkRest; rw [h]; rfl
  rw [e1, bs_extract_end]
  unfold chkIs at h; simp at h
  refine ⟨?_, ?_⟩
  · rw [← cuts_chk, ← h, List.take_append_drop]
  · simp

theorem cut_no {s : ByteArray} (h : ¬ 0 ≤ spIdx (bs s)) : cuts (bs s) = [bs s] := by
  rcases spIdx_cases (bs s) with ⟨h1, h2⟩ | ⟨i, h1, h2, h3, h4⟩
  · exact cuts_none _ h2
  · omega
theorem cut_yes {s : ByteArray} (h : 0 ≤ spIdx (bs s)) : cuts (bs s) = bs (cutB s) :: cuts (bs (cutA s)) ∧ (cutA s).size ≤ s.size := by
  rcases spIdx_cases (bs s) with ⟨h1, h2⟩ | ⟨i, h1, h2, h3, h4⟩
  · omega
  · have e1 : cutB s = s.extract 0 i := by unfold cutB; rw [h1]; rw [if_pos (by omega)]; rfl
    have e2 : cutA s = s.extract (i + 1) s.size := by unfold cutA; rw [h1]; rw [if_pos (by omega)]; rfl
    rw [e1, e2, bs_extract_end, bs_extract]
    refine ⟨?_, by simp⟩
    rw [cuts_idx h2 h3 h4]; simp

/-- what is asked, by the cuts of the program -/
theorem ask_cases (s : ByteArray) :
    (chkIs s = false ∨ ¬ 0 ≤ spIdx (bs (chkRest s)) ∨ 0 ≤ spIdx (bs (cutA (chkRest s)))) ∧ aE (bs s) = 13 ∧ aV (bs s) = 0 ∧ aK (bs s) = [] ∨
    chkIs s = true ∧ 0 ≤ spIdx (bs (chkRest s)) ∧ ¬ 0 ≤ spIdx (bs (cutA (chkRest s))) ∧ (cutA (chkRest s)).size ≤ s.size ∧
      aE (bs s) = (if kRight (bs (cutB (chkRest s))) then dE (bs (cutA (chkRest s))) else 12) ∧
      aV (bs s) = (if aE (bs s) = 0 then dV (bs (cutA (chkRest s))) else 0) ∧ aK (bs s) = (if aE (bs s) = 0 then bs (cutB (chkRest s)) else []) := by
  by_cases h : chkIs s = true
  · obtain ⟨c1, z1⟩ := chk_cuts h
    by_cases h2 : 0 ≤ spIdx (bs (chkRest s))
    · obtain ⟨c2, z2⟩ := cut_yes h2
      by_cases h3 : 0 ≤ spIdx (bs (cutA (chkRest s)))
      · obtain ⟨c3, z3⟩ := cut_yes h3
        obtain ⟨p, ps, e⟩ := cuts_ne (bs (cutA (cutA (chkRest s))))
        exact .inl ⟨.inr (.inr h3), aE_not3 (by rw [c1, c2, c3, e]; simp)⟩
      · obtain ⟨E1, E2, E3⟩ := aE_3 (by rw [c1, c2, cut_no h3])
        rw [if_pos rfl] at E1
        exact .inr ⟨h, h2, h3, by omega, E1, E2, E3⟩
    · exact .inl ⟨.inr (.inl h2), aE_not3 (by rw [c1, cut_no h2]; simp)⟩
  · have h : chkIs s = false := by simpa using h
    exact .inl ⟨.inl h, chk_no h⟩

theorem ret_askp {k : ByteArray} {a b a' b' : Int} (h : a = a') (h' : b = b') : Ending.returned (.tuple #[.string k, .int .u64 a, .int .u16 b]) = .returned (.tuple #[.string k, .int .u64 a', .int .u16 b']) := by rw [h, h']

set_option maxRecDepth 100000 in
set_option maxHeartbeats 2000000 in
theorem pAsk (a : Option Addr) (cap : Nat) (l : List UInt8) (hl : l.length ≤ 1000000) (w : World) (hb : IsBytes w a l) :
    Calls Tryz.prog 12 #[.slice a l.length cap] w fun e w' => ∃ k : ByteArray, e = .returned (.tuple #[.string k, .int .u64 (aV l), .int .u16 (aE l)]) ∧ bs k = aK l ∧ Ext w w' := by
  have hcv := conv_str cap hb
  have hz : (strOf l).size ≤ 1000000 := by rw [← bs_length, bs_strOf]; exact hl
  have hP := pCutPrefix (strOf l) hz
  have hA := ask_cases (strOf l)
  have hz1 : (chkRest (strOf l)).size ≤ (strOf l).size := by
    by_cases h : chkIs (strOf l) = true
    · exact (chk_cuts h).2
    · unfold chkRest; rw [if_neg h]; exact Nat.le_refl _
  have hC := pCut (chkRest (strOf l)) (by omega)
  have hN := pContains (cutA (chkRest (strOf l)))
  rw [bs_strOf] at hA
  generalize chkIs (strOf l) = IS at *
  generalize chkRest (strOf l) = R at *
  generalize strOf l = S at *
  generalize cutA R = T at *
  generalize cutB R = K at *
  obtain ⟨b1, e1⟩ : ∃ b, decide (0 ≤ spIdx (bs R)) = b := ⟨_, rfl⟩
  obtain ⟨b2, e2⟩ : ∃ b, decide (0 ≤ spIdx (bs T)) = b := ⟨_, rfl⟩
  rw [e1] at hC
  rw [e2] at hN
  clear hb hz1
  rcases hA with ⟨hor, hE⟩ | ⟨h1, h2, h3, h4, hE⟩
  · have hE := Lib.hid hE
    rw [← decide_eq_true_iff (p := 0 ≤ spIdx (bs R)), ← decide_eq_true_iff (p := 0 ≤ spIdx (bs T)), e1, e2] at hor
    clear e1 e2
    go_enter Tryz.func12, Tryz.ntmps12
    go_wp2_with fail
    refine wp_scope_1t 0 rfl ?_
    go_wp2_with fail
    refine (hP _).mono ?_
    rintro e w1 ⟨rfl, rfl⟩
    clear hP
    go_wp2_with fail
    refine (hC _).mono ?_
    rintro e w1 ⟨rfl, hx⟩
    clear hC
    cases IS
    · go_wp2
      refine wp_goto ?_
      refine ⟨rfl, ?_⟩
      go_wp2
      rw [Exit.noGoto_ret]
      go_ret3
      exact ⟨_, ret_askp hE.out.2.1.symm hE.out.1.symm, by rw [hE.out.2.2]; rfl, hx⟩
    · cases b1
      · go_wp2
        refine wp_goto ?_
        refine ⟨rfl, ?_⟩
        go_wp2
        rw [Exit.noGoto_ret]
        go_ret3
        exact ⟨_, ret_askp hE.out.2.1.symm hE.out.1.symm, by rw [hE.out.2.2]; rfl, hx⟩
      · cases b2
        · simp at hor
        · go_wp2_with fail
          refine (hN _).mono ?_
          rintro e w2 ⟨rfl, rfl⟩
          clear hN
          go_wp2
          refine wp_goto ?_
          refine ⟨rfl, ?_⟩
          go_wp2
          rw [Exit.noGoto_ret]
          go_ret3
          exact ⟨_, ret_askp hE.out.2.1.symm hE.out.1.symm, by rw [hE.out.2.2]; rfl, hx⟩
  · rw [decide_eq_true h2] at e1
    rw [decide_eq_false h3] at e2
    subst e1 e2 h1
    have hE := Lib.hid hE
    have hK := pKey K
    have hD := dParseP T (by unfold maxLen; omega)
    have hV0 : Hid (dE (bs T) ≠ 0 → dV (bs T) = 0) := Lib.hid dV_of_err
    clear h2 h3
    generalize dV (bs T) = V at *
    generalize dE (bs T) = E at *
    generalize kRight (bs K) = KR at *
    go_enter Tryz.func12, Tryz.ntmps12
    go_wp2_with fail
    refine wp_scope_1t 0 rfl ?_
    go_wp2_with fail
    refine (hP _).mono ?_
    rintro e w1 ⟨rfl, rfl⟩
    clear hP
    go_wp2_with fail
    refine (hC _).mono ?_
    rintro e w1 ⟨rfl, hx⟩
    clear hC
    go_wp2_with fail
    refine (hN _).mono ?_
    rintro e w2 ⟨rfl, rfl⟩
    clear hN
    go_wp2_with fail
    refine (hK _).mono ?_
    rintro e w2 ⟨rfl, hx2⟩
    clear hK
    have hx' := hx.trans hx2
    clear hx hx2
    cases KR
    · have hE : Hid (aE l = 12 ∧ aV l = 0 ∧ aK l = []) := Lib.hid (by
        obtain ⟨E1, E2, E3⟩ := hE.out
        simp at E1
        rw [E1] at E2 E3
        exact ⟨E1, by simpa using E2, by simpa using E3⟩)
      go_wp2
      refine wp_goto ?_
      refine ⟨rfl, ?_⟩
      go_wp2
      rw [Exit.noGoto_ret]
      go_ret3
      exact ⟨_, ret_askp hE.out.2.1.symm hE.out.1.symm, by rw [hE.out.2.2]; rfl, hx'⟩
    · go_wp2_with fail
      refine (hD _).mono ?_
      rintro e w3 ⟨rfl, rfl⟩
      clear hD
      have hE : Hid (aE l = E ∧ aV l = V ∧ aK l = (if E = 0 then bs K else [])) := Lib.hid (by
        obtain ⟨E1, E2, E3⟩ := hE.out
        simp at E1
        rw [E1] at E2 E3
        refine ⟨E1, ?_, E3⟩
        rw [E2]; split
        · rfl
        · rename_i h; exact (hV0.out h).symm)
      by_cases h0 : E = 0
      · subst h0
        go_wp2
        simp only [Exit.jump]
        go_ret3
        exact ⟨_, ret_askp hE.out.2.1.symm hE.out.1.symm, by rw [hE.out.2.2]; simp, hx'⟩
      · have hv := hV0.out h0
        subst hv
        go_wp2
        refine wp_goto ?_
        refine ⟨rfl, ?_⟩
        go_wp2
        rw [Exit.noGoto_ret]
        go_ret3
        exact ⟨_, ret_askp hE.out.2.1.symm hE.out.1.symm, by rw [hE.out.2.2, if_neg h0]; rfl, hx'⟩

end Go.Proofs.YtdgcgpapcbjfhaaGreatDoor

/- A key of choices. -/
namespace Go.Proofs.YtdgcgpapcbjfhaaGreatDoor
open Go.RowKit

def keyPart (q : Nat) : ByteArray := match q with
  | 0 => ⟨#[97]⟩
  | 1 => ⟨#[98]⟩
  | 2 => ⟨#[97, 47]⟩
  | 3 => ⟨#[98, 47]⟩
  | 4 => ⟨#[99]⟩
  | 5 => ⟨#[122]⟩
  | 6 => ⟨#[126]⟩
  | _ => ⟨#[33]⟩
theorem keyPart_ok (q : Nat) : (bs (keyPart q)).all kByte = true ∧ (keyPart q).size ≤ 2 ∧ 1 ≤ (keyPart q).size := by
  unfold keyPart
  split <;> decide
theorem keyPart_cell (W : World) (t : TypeId) (q : Nat) (hq : q < 8) : (W.alloc (.cells #[.string ⟨#[97]⟩, .string ⟨#[98]⟩, .string ⟨#[97, 47]⟩, .string ⟨#[98, 47]⟩, .string ⟨#[99]⟩, .string ⟨#[122]⟩, .string ⟨#[126]⟩, .string ⟨#[33]⟩] t)).cell? ⟨W.heap.size, q, none⟩ = some (.string (keyPart q)) := by
  obtain rfl | rfl | rfl | rfl | rfl | rfl | rfl | rfl : q = 0 ∨ q = 1 ∨ q = 2 ∨ q = 3 ∨ q = 4 ∨ q = 5 ∨ q = 6 ∨ q = 7 := by omega
  all_goals (unfold keyPart; go_simp)
theorem strOf_bs0 (s : ByteArray) : s = strOf (bs s) := by
  show s = ⟨(s.data.toList).toArray⟩
  simp
theorem bs_append (a b : ByteArray) : bs (a ++ b) = bs a ++ bs b := by simp [bs]

set_option maxRecDepth 100000 in
set_option maxHeartbeats 1600000 in
theorem lKey (a : Option Addr) (cap : Nat) (l : List UInt8) (hl : l.length ≤ maxLen) (w : World) (hb : IsBytes w a l) :
    Calls Tryz.prog 7 #[.slice a l.length cap] w fun e w' => ∃ s : ByteArray, e = .returned (.string s) ∧ kRight (bs s) = true ∧ s.size ≤ 12 ∧ Ext w w' := by
  unfold maxLen at hl
  go_enter Tryz.func7, Tryz.ntmps7
  go_wp2
  go_loopw [3, 4] (fun s i wr => ∃ (k : Nat) (S : ByteArray), k ≤ 6 ∧ k ≤ l.length ∧ i = .int .i64 k ∧ s = .string S ∧ (bs S).all kByte = true ∧ S.size ≤ 2 * k ∧ Ext w wr) (fun _ i _ => 6 - (intOf i).toNat)
  case atStart => exact ⟨0, ⟨#[]⟩, Nat.zero_le _, Nat.zero_le _, rfl, rfl, rfl, Nat.zero_le _, Ext.refl _⟩
  case round =>
    obtain ⟨k, S, hk6, hkl, rfl, rfl, hS, hSs, hx⟩ := hrel
    by_cases hlt : k < l.length
    · by_cases h6 : k < 6
      · obtain ⟨b, off, rfl, hc⟩ := (hb.ext hx).resolve_left (by intro e; rw [e] at hlt; simp at hlt)
        have hck := hc k hlt
        have hp : (l.getD k 0).toNat < 256 := (l.getD k 0).toNat_lt
        obtain ⟨p, hpe⟩ : ∃ p, (l.getD k 0).toNat = p := ⟨_, rfl⟩
        rw [hpe] at hck hp
        have hq8 : p % 8 < 8 := Nat.mod_lt _ (by omega)
        have hkc := fun W => keyPart_cell W 9 (p % 8) hq8
        obtain ⟨g1, g2, g3⟩ := keyPart_ok (p % 8)
        obtain ⟨Q, hQ⟩ : ∃ Q, keyPart (p % 8) = Q := ⟨_, rfl⟩
        rw [hQ] at hkc g1 g2 g3
        have hn9 : ¬ 9223372036854775807 < S.size + Q.size := by omega
        have hbl := World.block_lt_of_cell? wr _ hck
        clear hpe hc hQ hb
        go_wp2
        go_roundw
        case rel => exact ⟨k + 1, S ++ Q, by omega, by omega, by go_num, rfl, by rw [bs_append, List.all_append, hS, g1]; rfl, by rw [ByteArray.size_append]; omega, by repeat (first | exact Ext.refl _ | assumption | apply Ext.drew | apply Ext.alloc | (refine Ext.setCell ?_ (by simp <;> omega) _) | refine Ext.trans ?_ (by assumption))⟩
        case measure => simp [intOf]; omega
      · have h6' : ¬ ((k : Int) < 6) := by omega
        by_cases hE : S = ⟨#[]⟩
        · subst hE
          go_wp2
          go_ret
          exact ⟨⟨#[107]⟩, rfl, by decide, by decide, hx⟩
        · have hSe : S.toList.isEmpty = false := by
            rw [toList_bs]
            cases h : bs S with
            | nil => exact absurd (by have := strOf_bs0 S; rw [h] at this; exact this) hE
            | cons a l => rfl
          have hS1 : 1 ≤ S.size := by
            rw [← bs_length]
            rw [toList_bs] at hSe
            cases h : bs S with
            | nil => rw [h] at hSe; cases hSe
            | cons a l => simp
          have hkr := Lib.hid (show kRight (bs S) = true by unfold kRight; rw [hS, bs_length]; simp; omega)
          go_wp2
          go_ret
          exact ⟨S, rfl, hkr.out, by omega, hx⟩
    · skip
      by_cases hE : S = ⟨#[]⟩
      · subst hE
        go_wp2
        go_ret
        exact ⟨⟨#[107]⟩, rfl, by decide, by decide, hx⟩
      · have hSe : S.toList.isEmpty = false := by
          rw [toList_bs]
          cases h : bs S with
          | nil => exact absurd (by have := strOf_bs0 S; rw [h] at this; exact this) hE
          | cons a l => rfl
        have hS1 : 1 ≤ S.size := by
          rw [← bs_length]
          rw [toList_bs] at hSe
          cases h : bs S with
          | nil => rw [h] at hSe; cases hSe
          | cons a l => simp
        have hkr := Lib.hid (show kRight (bs S) = true by unfold kRight; rw [hS, bs_length]; simp; omega)
        go_wp2
        go_ret
        exact ⟨S, rfl, hkr.out, by omega, hx⟩

end Go.Proofs.YtdgcgpapcbjfhaaGreatDoor
