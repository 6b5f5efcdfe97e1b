/- A text of rules, bent. -/
import Derived.Test.YtdgcgpapcbjfhaaGreatDoorJ47Right
import Derived.Deep.CutRange
set_option linter.unusedVariables false
set_option linter.unusedSimpArgs false

/- A text of rules, as the document prints it. -/
namespace Go.Proofs.YtdgcgpapcbjfhaaGreatDoor
open Go.RowKit

theorem infoSs : (Tryz.prog.info? 51).map (fun i => (i.zero, i.size, i.bytes)) = some (some (.slice none 0 0), 1, 24) := by kernel_rfl

/-- rows of words in memory -/
def RowsAt (w : World) (vs : List Value) (ls : List (List ByteArray)) : Prop := vs.length = ls.length ∧ ∀ i, i < ls.length → ∃ g c, vs[i]? = some (.slice (some ⟨g, 0, none⟩) (ls.getD i []).length c) ∧ (ls.getD i []).length ≤ c ∧ WordsAt w g (ls.getD i []) ∧ (ls.getD i []).length ≤ 5 ∧ ∀ s ∈ ls.getD i [], s.size ≤ 200
theorem RowsAt.ext {w w' : World} {vs : List Value} {ls : List (List ByteArray)} (h : RowsAt w vs ls) (hx : Ext w w') : RowsAt w' vs ls :=
  ⟨h.1, fun i hi => by obtain ⟨g, c, h1, h2, h3, h4⟩ := h.2 i hi; exact ⟨g, c, h1, h2, h3.ext hx, h4⟩⟩
/-- a row of slices grows: the words stay -/
theorem RowsAt.grown {w w' : World} {base : Nat} {o : Value} {vs us : List Value} {ls : List (List ByteArray)} {ob : Obj} (h : RowsAt w vs ls) (ho : w.ownsRow base 51 1 o us.length us) (hs : ∀ u ∈ us, ∃ a n c, u = .slice a n c) (h0 : 0 < us.length) (hg : (w.alloc ob).grownBy w' o.ownBlock) : RowsAt w' vs ls := by
  refine ⟨h.1, fun i hi => ?_⟩
  obtain ⟨g, c, h1, h2, h3, h4⟩ := h.2 i hi
  refine ⟨g, c, h1, h2, fun j hj => ?_, h4⟩
  have hc := ((Ext.refl w).alloc ob).reads (h3 j hj)
  refine hg.cell hc (fun e => ?_)
  obtain ⟨gg, cp, hv, -, -, hcs⟩ := own_cells ho h0
  rw [hv] at e
  simp [Value.ownBlock] at e
  have hcs0 := hcs 0 h0
  have h30 := h3 0 (by omega)
  have e2 : gg = g := by first | exact e | exact e.symm
  rw [e2, h30] at hcs0
  obtain ⟨a, n, c, hu⟩ := hs (us.getD 0 undef) (by
    cases us with
    | nil => simp at h0
    | cons u us => simp)
  rw [hu] at hcs0
  cases hcs0

/-- a block that begins with no slice is not the row's -/
theorem own_far {w : World} {base : Nat} {o : Value} {us : List Value} (ho : w.ownsRow base 51 1 o us.length us) (hs : ∀ u ∈ us, ∃ a n c, u = .slice a n c) (h0 : 0 < us.length) {q : Nat} {x : Value} (hx : w.cell? ⟨q, 0, none⟩ = some x) (hn : ∀ a n c, x ≠ .slice a n c) : o.ownBlock ≠ some q := by
  intro e
  obtain ⟨gg, cp, hv, -, -, hcs⟩ := own_cells ho h0
  rw [hv] at e
  simp [Value.ownBlock] at e
  have hcs0 := hcs 0 h0
  subst e
  rw [hx] at hcs0
  obtain ⟨a, n, c, hu⟩ := hs (us.getD 0 undef) (by
    cases us with
    | nil => simp at h0
    | cons u us => simp)
  rw [hu] at hcs0
  exact hn a n c (Option.some.inj hcs0)
theorem RowsAt.snoc {w : World} {vs : List Value} {ls : List (List ByteArray)} (h : RowsAt w vs ls) {g c : Nat} {ts : List ByteArray} (h2 : ts.length ≤ c) (h3 : WordsAt w g ts) (h4 : ts.length ≤ 5) (h5 : ∀ s ∈ ts, s.size ≤ 200) : RowsAt w (vs ++ [.slice (some ⟨g, 0, none⟩) ts.length c]) (ls ++ [ts]) := by
  refine ⟨by simp [h.1], fun i hi => ?_⟩
  rw [List.length_append, List.length_singleton] at hi
  by_cases hl : i < ls.length
  · obtain ⟨g', c', a, b⟩ := h.2 i hl
    have e : (ls ++ [ts]).getD i [] = ls.getD i [] := by rw [List.getD_eq_getElem?_getD, List.getD_eq_getElem?_getD, List.getElem?_append_left hl]
    rw [e]
    exact ⟨g', c', by rw [List.getElem?_append_left (by rw [h.1]; exact hl)]; exact a, b⟩
  · have hil : i = ls.length := by omega
    have e : (ls ++ [ts]).getD i [] = ts := by rw [List.getD_eq_getElem?_getD, hil, List.getElem?_append_right (Nat.le_refl _)]; simp
    rw [e]
    exact ⟨g, c, by rw [hil, ← h.1, List.getElem?_append_right (Nat.le_refl _)]; simp, h2, h3, h4, h5⟩

set_option maxRecDepth 100000 in
set_option maxHeartbeats 1600000 in
theorem rPrint12 (m : Nat) (v : Value) (rs : List Rl) (h1 : 1 ≤ m) (h2 : m ≤ 1000000) (hn : rs.length ≤ 13) (hok : ∀ r ∈ rs, okR r) (hl : ∀ r ∈ rs, r.pre.length ≤ 100) (hz : hasP rs [] = true) (hd : rs.Pairwise (fun a b => a.pre ≠ b.pre)) (w : World) (hv : RulesAt w v rs) :
    Calls Tryz.prog 11 #[plV m v] w fun e w' => ∃ (v' : Value) (l : List UInt8), e = .returned (.tuple #[v', .int .i64 0]) ∧ w'.ownsRow w.heap.size 5 1 v' l.length (l.map byteV) ∧ 1 ≤ l.length ∧ l.length ≤ 20000 ∧ Ext w w' := by
  obtain ⟨i0, hi, hz0, hz1, hz2⟩ := info_parts infoSs
  have hR := fun W (hx : Ext w W) => rRight12 m v rs h1 h2 (by omega) hok hz hd W (hv.ext hx)
  have hO := fun W (hx : Ext w W) => rOrder m v rs (by omega) hok W (hv.ext hx)
  have hP := fun W => rPrint3 m (by omega) W
  have hPs := prt_size m (by omega)
  have hSl : (sortR rs).length = rs.length := sortR_len _ rs rfl
  have hSm : ∀ k, k < (sortR rs).length → (sortR rs).getD k Rl0 ∈ rs := fun k hk => by
    rw [getD_lt _ _ _ hk]
    exact sortR_mem _ rs _ rfl (List.getElem_mem hk)
  have hP11 : ∀ k, k < (sortR rs).length → ∀ W, Calls Tryz.prog 24 #[rlV ((sortR rs).getD k Rl0)] W fun e w' => ∃ (g cp : Nat) (ts : List ByteArray), e = .returned (.slice (some ⟨g, 0, none⟩) ts.length cp) ∧ ts.length ≤ 5 ∧ ts.length ≤ cp ∧ (∀ s ∈ ts, s.size ≤ 200) ∧ WordsAt w' g ts ∧ Ext W w' := fun k hk W => by
    refine (rPrint11 _ (hok _ (hSm k hk)) W).mono ?_
    rintro e w' ⟨g, cp, ts, he, a1, a2, a3, a4, a5, a6, a7⟩
    exact ⟨g, cp, ts, he, a1, a2, fun s hs => by have := a4 s hs; have := hl _ (hSm k hk); omega, a5, a7⟩
  generalize prt m = SM at *
  obtain ⟨va, vc, rfl, -⟩ := hv.form
  clear hv hz hd hok hl hSm
  unfold plV at *
  unfold rlV at hP11
  go_enter Tryz.func11, Tryz.ntmps11
  go_wp2_with fail
  refine (hR _ ((Ext.refl w).alloc _)).mono ?_
  rintro e w1 ⟨rfl, hx1⟩
  have a0 : w1.cell? ⟨w.heap.size, 0, none⟩ = some (.int .i64 m) := hx1.reads (by go_simp)
  have a1 : w1.cell? ⟨w.heap.size, 1, none⟩ = some (.slice va rs.length vc) := hx1.reads (by go_simp)
  have hx01 := Lib.hid (Ext.past hx1)
  have hBl : w.heap.size < w1.heap.size := World.block_lt_of_cell? w1 _ a0
  clear hx1 hR
  go_wp2_with fail
  refine (hP _).mono ?_
  rintro e w2 ⟨rfl, rfl⟩
  go_wp2_with fail
  obtain ⟨W3, hW3⟩ : ∃ W3, (w1.alloc (.cells #[.string ⟨#[115, 105, 122, 101]⟩, .string SM] 9)).alloc (.cells #[.slice (some ⟨w1.heap.size, 0, none⟩) 2 2] 51) = W3 := ⟨_, rfl⟩
  have hx13 : Ext w1 W3 := by rw [← hW3]; exact ((Ext.refl w1).alloc _).alloc _
  have hown3 : W3.ownsRow (w1.heap.size + 1) 51 1 (.slice (some ⟨w1.heap.size + 1, 0, none⟩) 1 1) 1 [.slice (some ⟨w1.heap.size, 0, none⟩) 2 2] := by
    subst hW3
    have h := own_lit (w1.alloc (.cells #[.string ⟨#[115, 105, 122, 101]⟩, .string SM] 9)) (w1.heap.size + 1) (by simp) 51 [.slice (some ⟨w1.heap.size, 0, none⟩) 2 2] (by simp)
    rw [show (w1.alloc (.cells #[.string ⟨#[115, 105, 122, 101]⟩, .string SM] 9)).heap.size = w1.heap.size + 1 by simp] at h
    exact h
  have hrows3 : RowsAt W3 [.slice (some ⟨w1.heap.size, 0, none⟩) 2 2] [[⟨#[115, 105, 122, 101]⟩, SM]] := by
    refine ⟨rfl, fun i hi => ?_⟩
    obtain rfl : i = 0 := by simpa using hi
    refine ⟨w1.heap.size, 2, rfl, Nat.le_refl _, fun j hj => ?_, by simp, fun s hs => ?_⟩
    · have : j = 0 ∨ j = 1 := by simp at hj; omega
      subst hW3
      rcases this with rfl | rfl
      · show _ = some (Value.string ⟨#[115, 105, 122, 101]⟩); go_simp
      · show _ = some (Value.string SM); go_simp
    · simp at hs
      rcases hs with rfl | rfl
      · exact Nat.le_trans (show _ ≤ 20 by decide) (by omega)
      · omega
  have hL0 : w.heap.size ≤ w1.heap.size + 1 := by omega
  have hL1 : w1.heap.size + 1 ≤ W3.heap.size := by subst hW3; simp <;> omega
  rw [hW3]
  clear hW3
  generalize w1.heap.size + 1 = L0 at *
  generalize hvs0 : [Value.slice (some ⟨w1.heap.size, 0, none⟩) 2 2] = vs0 at *
  have hvl0 : vs0.length = 1 := by rw [← hvs0]; rfl
  have hvf0 : ∀ u ∈ vs0, ∃ a n c, u = Value.slice a n c := by rw [← hvs0]; intro u hu; simp at hu; exact ⟨_, _, _, hu⟩
  refine (hO _ (hx01.out.trans hx13)).mono ?_
  rintro e w4 ⟨v', rfl, hv', hx34⟩
  obtain ⟨va', vc', rfl, hvf⟩ := hv'.form
  have hx04 := hx01.out.trans (hx13.trans hx34)
  have hown4 := owns_ext hown3 hx34
  have hrows4 := hrows3.ext hx34
  have hL4 : L0 ≤ w4.heap.size := Nat.le_trans hL1 hx34.size
  clear hown3 hrows3 hx13 hx34 hO hx01 hvs0 a0 a1 hBl hP hL1
  generalize hrsE : sortR rs = rss at *
  generalize hnn : rs.length = n at *
  rw [hSl] at hv' hvf hP11 ⊢
  go_wp2
  obtain ⟨B5, hB5⟩ : ∃ B, w4.heap.size = B := ⟨_, rfl⟩
  obtain ⟨W5, hW5⟩ : ∃ W, w4.alloc (.cells #[.int .i64 m, .slice va' n vc'] 30) = W := ⟨_, rfl⟩
  have hx45 : Ext w4 W5 := by rw [← hW5]; exact (Ext.refl w4).alloc _
  have b0 : W5.cell? ⟨B5, 0, none⟩ = some (.int .i64 m) := by subst hW5 hB5; go_simp
  have b1 : W5.cell? ⟨B5, 1, none⟩ = some (.slice va' n vc') := by subst hW5 hB5; go_simp
  have hown5 := owns_ext hown4 hx45
  have hrows5 := hrows4.ext hx45
  have hv5 := hv'.ext hx45
  have hx05 := hx04.trans hx45
  have hL5 := Nat.le_trans hL4 hx45.size
  rw [hW5, hB5]
  clear hW5 hB5 hown4 hrows4 hv' hx04 hx45
  go_loopw [4, 6] (fun o i wr => ∃ (k : Nat) (vs : List Value) (ls : List (List ByteArray)), k ≤ n ∧ i = .int .i64 k ∧ vs.length = k + 1 ∧ wr.ownsRow L0 51 1 o vs.length vs ∧ (∀ u ∈ vs, ∃ a n c, u = Value.slice a n c) ∧ RowsAt wr vs ls ∧ wr.cell? ⟨B5, 0, none⟩ = some (.int .i64 m) ∧ wr.cell? ⟨B5, 1, none⟩ = some (.slice va' n vc') ∧ Hid (RulesAt wr (.slice va' n vc') rss) ∧ L0 ≤ wr.heap.size ∧ Ext w wr) (fun _ i _ => n - (intOf i).toNat)
  case atStart => exact ⟨0, vs0, _, Nat.zero_le _, rfl, hvl0, by rw [hvl0]; exact hown5, hvf0, hrows5, b0, b1, Lib.hid hv5, hL5, hx05⟩
  case round =>
    clear hown5 hrows5 b0 b1 hv5 hx05 hvl0 hvf0 hL5
    obtain ⟨k, vs, ls, hk, rfl, hvl, hown, hvs, hrows, b0, b1, hru, hL5, hx⟩ := hrel
    by_cases hlt : k < n
    · obtain ⟨g, rfl, -, -, -⟩ := hvf (fun e => by rw [e] at hSl; simp at hSl; omega)
      obtain ⟨c0, c1, c2, c3⟩ := RulesAt.cells (rs := rss) (g := g) (cp := vc') (by rw [hSl]; exact hru.out) (i := k) (by rw [hSl]; exact hlt)
      have hcg := (RulesAt.cells (rs := rss) (g := g) (cp := vc') (by rw [hSl]; exact hru.out) (i := 0) (by rw [hSl]; omega)).1
      have hP := hP11 k hlt
      generalize rss.getD k Rl0 = r at *
      go_wp2_with fail
      refine (hP _).mono ?_
      rintro e w6 ⟨g6, cp6, ts, rfl, t1, t2, t3, t4, hx6⟩
      have hown6 := owns_ext hown hx6
      have h0 : 0 < vs.length := by omega
      have hB6 : Hid (RowsAt w6 (vs ++ [.slice (some ⟨g6, 0, none⟩) ts.length cp6]) (ls ++ [ts]) ∧ w6.cell? ⟨B5, 0, none⟩ = some (.int .i64 m) ∧ w6.cell? ⟨B5, 1, none⟩ = some (.slice (some ⟨g, 0, none⟩) n vc') ∧ RulesAt w6 (.slice (some ⟨g, 0, none⟩) n vc') rss ∧ L0 ≤ w6.heap.size ∧ Ext w w6 ∧ w6.cell? ⟨g, 0, none⟩ = some (.string (strOf (rss.getD 0 Rl0).pre)) ∧ WordsAt w6 g6 ts) :=
        Lib.hid ⟨(hrows.ext hx6).snoc t2 t4 t1 t3, hx6.reads b0, hx6.reads b1, hru.out.ext hx6, Nat.le_trans hL5 hx6.size, hx.trans hx6, hx6.reads (by simpa using hcg), t4⟩
      have hL6 := hB6.out.2.2.2.2.1
      clear c0 c1 c2 c3 hP hrows b0 b1 hru hx t3 t4 hx6 hown hL5 hcg
      go_wp2_with (at_builtin; refine wpList_append_own _ rfl _ _ 71 rfl L0 51 i0 (.slice none 0 0) 1 24 Tryz.underlying71 hi hz0 hz1 hz2 rfl (by decide) _ vs.length vs rfl (hown6.alloc _) ⟨w6.heap.size, 0, none⟩ 1 1 [.slice (some ⟨g6, 0, none⟩) ts.length cp6] rfl rfl ?c1 ?c2 ?c3 ?c4 ?c5 ?_)
      case c1 => exact cell_one_new _ (.slice (some ⟨g6, 0, none⟩) ts.length cp6) 51
      case c2 => simp [Value.oneCell']
      case c3 => unfold maxLen; omega
      case c4 => omega
      case c5 => simp; omega
      intro v7 w7 hown7 hgrow7 _
      have hbt : But (fun x => u4.ownBlock = some x) w6 w7 := (But.of_ext ((Ext.refl w6).alloc _)).grown hgrow7 (fun x hx => hx)
      obtain ⟨r1, r2, r3, r4, r5, r6, r7, r8⟩ := hB6.out
      have hn5 := own_far hown6 hvs h0 r2 (by intro a n c e; cases e)
      have hng := own_far hown6 hvs h0 r7 (by intro a n c e; cases e)
      have hfin : Hid ((vs ++ [Value.slice (some ⟨g6, 0, none⟩) ts.length cp6]).length = k + 1 + 1 ∧ w7.ownsRow L0 51 1 v7 (vs ++ [Value.slice (some ⟨g6, 0, none⟩) ts.length cp6]).length (vs ++ [Value.slice (some ⟨g6, 0, none⟩) ts.length cp6]) ∧ (∀ u ∈ vs ++ [Value.slice (some ⟨g6, 0, none⟩) ts.length cp6], ∃ a n c, u = Value.slice a n c) ∧ RowsAt w7 (vs ++ [Value.slice (some ⟨g6, 0, none⟩) ts.length cp6]) (ls ++ [ts]) ∧ w7.cell? ⟨B5, 0, none⟩ = some (.int .i64 m) ∧ w7.cell? ⟨B5, 1, none⟩ = some (.slice (some ⟨g, 0, none⟩) n vc') ∧ Hid (RulesAt w7 (.slice (some ⟨g, 0, none⟩) n vc') rss) ∧ L0 ≤ w7.heap.size ∧ Ext w w7) := Lib.hid (by
        refine ⟨by simp [hvl], by rw [List.length_append, hvl]; exact hown7, ?_, r1.grown hown6 hvs h0 hgrow7, hbt.cell r2 hn5, hbt.cell r3 hn5, Lib.hid (r4.but hbt (fun x hx h => ?_)), Nat.le_trans r5 hbt.size, Ext.ofBut ((But.of_ext (S := fun _ => False) r6).fresh hbt (fun i hi => ?_))⟩
        · intro u hu
          rw [List.mem_append] at hu
          rcases hu with hu | hu
          · exact hvs u hu
          · simp at hu; exact ⟨_, _, _, hu⟩
        · simp [Value.ownBlock] at hx
          subst hx
          exact hng h
        · have := (hown6.lt i hi).1
          omega)
      clear r1 r2 r3 r4 r5 r6 r7 r8 hn5 hng hbt hown6 hown7 hgrow7 hB6
      go_wp2
      go_roundw
      case rel => exact ⟨k + 1, _, _, by omega, by go_num, hfin.out⟩
      case measure => simp [intOf]; omega
    · obtain rfl : k = n := by omega
      have hoc := own_cells hown (by omega)
      obtain ⟨G, cp, rfl, o1, o2, o3⟩ := hoc
      have hJ : Calls Tryz.prog 25 #[.slice (some ⟨G, 0, none⟩) (k + 1) cp] wr fun e w' => ∃ (v : Value) (l : List UInt8), e = .returned v ∧ w'.ownsRow wr.heap.size 5 1 v l.length (l.map byteV) ∧ ls.length ≤ l.length ∧ l.length ≤ ls.length * 1100 ∧ Ext wr w' := by
        have hvl2 := hrows.1
        rw [← hvl, hvl2]
        rw [hvl2] at o1 o3
        refine rJoin G cp ls (by omega) o1 (fun i hi => ?_) (fun i j hi hj => ?_) wr (fun i hi => ?_)
        · obtain ⟨g, c, -, -, -, h4, -⟩ := hrows.2 i hi
          exact h4
        · obtain ⟨g, c, -, -, -, -, h5⟩ := hrows.2 i hi
          refine h5 _ ?_
          rw [getD_lt (ls.getD i []) j ByteArray.empty hj]
          exact List.getElem_mem hj
        · obtain ⟨g, c, h2, h3, h4, -⟩ := hrows.2 i hi
          refine ⟨g, c, h3, ?_, h4⟩
          rw [o3 i hi, List.getD_eq_getElem?_getD, h2]
          rfl
      have hJH := Lib.hid hJ
      have hxH := Lib.hid hx
      have hls : Hid (ls.length = k + 1) := Lib.hid (hrows.1.symm.trans hvl)
      clear hJ hown hrows o1 o2 o3 hx hru
      go_wp2_with fail
      refine hJH.out.mono ?_
      rintro e w8 ⟨vv, l, rfl, j1, j2, j3, j4⟩
      go_wp2
      go_ret2
      exact ⟨vv, l, rfl, owns_mono j1 hxH.out.size, by have := hls.out; omega, by have := hls.out; omega, hxH.out.trans j4⟩

end Go.Proofs.YtdgcgpapcbjfhaaGreatDoor

/- A text of rules, bent. -/
namespace Go.Proofs.YtdgcgpapcbjfhaaGreatDoor
open Go.RowKit

theorem own_bytes {w : World} {base : Nat} {v : Value} {l : List UInt8} (h : w.ownsRow base 5 1 v l.length (l.map byteV)) : ∃ a cap, v = .slice a l.length cap ∧ l.length ≤ cap ∧ IsBytes w a l := by
  by_cases hl : 0 < l.length
  · obtain ⟨g, cp, rfl, h1, h2, h3⟩ := own_cells h hl
    refine ⟨_, cp, rfl, h1, .inr ⟨g, 0, rfl, fun i hi => ?_⟩⟩
    rw [Nat.zero_add, h3 i hi, List.getD_eq_getElem?_getD, List.getElem?_map, List.getElem?_eq_getElem hi, getD_lt _ _ _ hi]
    rfl
  · have e : l = [] := List.eq_nil_of_length_eq_zero (by omega)
    obtain ⟨a, c, hv⟩ := own_slice h
    exact ⟨a, c, hv, by omega, .inl e⟩

set_option maxRecDepth 100000 in
set_option maxHeartbeats 3200000 in
theorem lBent (m : Nat) (v : Value) (rs : List Rl) (h1 : 1 ≤ m) (h2 : m ≤ 1000000) (hn : rs.length ≤ 13) (hok : ∀ r ∈ rs, okR r) (hl : ∀ r ∈ rs, r.pre.length ≤ 100) (hz : hasP rs [] = true) (hd : rs.Pairwise (fun a b => a.pre ≠ b.pre))
    (A : Nat) (hA : A ≤ 65535) (b : Nat) (hb : b ≤ 255) (s : ByteArray) (hs : s.size ≤ 500) (w : World) (hv : RulesAt w v rs) :
    Calls Tryz.prog 5 #[plV m v, .int .u16 A, .int .u8 b, .string s] w fun e w' => ∃ (a : Option Addr) (cap : Nat) (l : List UInt8), e = .returned (.slice a l.length cap) ∧ l.length ≤ cap ∧ l.length ≤ 50000 ∧ IsBytes w' a l ∧ Ext w w' := by
  obtain ⟨i0, hi, hz0, hz1, hz2⟩ := info_parts infoB
  have hP := fun W (hx : Ext w W) => rPrint12 m v rs h1 h2 hn hok hl hz hd W (hv.ext hx)
  obtain ⟨va, vc, rfl, -⟩ := hv.form
  clear hv hz hd hok hl h1 h2
  generalize rs.length = RN at *
  unfold plV at *
  go_enter Tryz.func5, Tryz.ntmps5
  go_wp2_with fail
  refine (hP _ ((Ext.refl w).alloc _)).mono ?_
  rintro e w1 ⟨v', t, rfl, hown, hl1, hl2, hx1⟩
  obtain ⟨G, cp, rfl, o1, o2, o3⟩ := own_cells hown (by omega)
  have hx01 := Lib.hid (Ext.past hx1)
  obtain ⟨N, hN⟩ : ∃ N, t.length = N := ⟨_, rfl⟩
  rw [hN] at hl1 hl2 o1 o3
  rw [hN]
  have hGc : ∀ W, Ext w1 W → ∀ i, i < N → W.cell? ⟨G, i, none⟩ = some ((t.map byteV).getD i undef) := fun W h i hi => h.reads (o3 i hi)
  have hcv := fun W (h : Ext w1 W) i (hi : i < N) => show W.cell? ⟨G, i, none⟩ = some (byteV (t.getD i 0)) by
    rw [hGc W h i hi, List.getD_eq_getElem?_getD, List.getElem?_map, List.getElem?_eq_getElem (by omega), getD_lt _ _ _ (by omega)]; rfl
  obtain ⟨I, hIn⟩ : ∃ I, A % (N + 1) = I := ⟨_, rfl⟩
  have hm : I < N + 1 := by rw [← hIn]; exact Nat.mod_lt _ (by omega)
  have hIc : (A : Int) % ((N : Int) + 1) = (I : Int) := by rw [← hIn]; simp
  have hcm : cp ≤ 9223372036854775807 := by unfold maxLen at o2; exact o2
  clear hP hown o3 hx1 hGc o2
  have hlt : ((t.take I).map byteV).length = I * 1 := by simp; omega
  go_wp2_with (at_builtin; refine wpList_append_own _ rfl _ _ 22 rfl w1.heap.size 5 i0 (.int .u8 0) 1 1 Tryz.underlying22 hi hz0 hz1 hz2 rfl (by decide) _ 0 [] rfl (World.ownsRow_nil _ _ _ _) ⟨G, 0, none⟩ I cp ((t.take I).map byteV) rfl hlt ?c1 ?c2 ?c3 ?c4 ?c5 ?_)
  case c1 =>
    intro j u h
    rw [List.getElem?_map] at h
    have hj : j < I := by
      have := (List.getElem?_eq_some_iff.1 (Option.map_eq_some_iff.1 h).choose_spec.1).1
      simp at this; omega
    rw [List.getElem?_take_of_lt hj, List.getElem?_eq_getElem (by omega)] at h
    simp at h
    rw [← h]
    have := hcv w1 (Ext.refl _) j (by omega)
    rw [getD_lt _ _ _ (by omega)] at this
    by_cases hj0 : j = 0
    · subst hj0; simpa [Addr.add] using this
    · simpa [Addr.add, hj0] using this
  case c2 => intro u hu; rw [List.mem_map] at hu; obtain ⟨c, -, rfl⟩ := hu; rfl
  case c3 => unfold maxLen; omega
  case c4 => omega
  case c5 => exact Nat.le_refl _
  intro v2 w2 hown2 hgrow2 _
  have hx12 : Ext w1 w2 := Below.grown (Ext.refl w1) hgrow2 (Nat.le_refl _) (by intro k hk; simp [Value.ownBlock] at hk)
  have hown : w2.ownsRow w1.heap.size 5 1 v2 (t.take I).length ((t.take I).map byteV) := by
    rw [show (t.take I).length = I by simp; omega, List.map_take]; simpa using hown2
  have hlen : (t.take I).length ≤ N := by simp; omega
  generalize t.take I = L at *
  clear hown2 hgrow2 hlt hIn
  go_upto_if 32 with (fail)
  go_cut [12] from 30 (fun o wx => ∃ (M : List UInt8), wx.ownsRow w1.heap.size 5 1 o M.length (M.map byteV) ∧ M.length ≤ N + 1 ∧ Ext w1 wx)
  case first =>
    have hx := hx12
    by_cases hb3 : b % 3 = 0
    · have hb3' : (b : Int) % 3 = 0 := by omega
      go_wp2_with (at_builtin; refine wpList_append_own _ rfl _ _ 22 rfl w1.heap.size 5 i0 (.int .u8 0) 1 1 Tryz.underlying22 hi hz0 hz1 hz2 rfl (by decide) _ L.length (L.map byteV) rfl (hown.alloc _) ⟨w2.heap.size, 0, none⟩ 1 1 [.int .u8 (b : Int)] rfl rfl ?c1 ?c2 ?c3 ?c4 ?c5 ?_)
      case c1 => exact cell_one_new _ (.int .u8 (b : Int)) 5
      case c2 => simp [Value.oneCell']
      case c3 => unfold maxLen; omega
      case c4 => omega
      case c5 => have := hx.size; simp; omega
      intro v' w4 hown4 hgrow4 _
      have hx4 := ext_grown hx hown hgrow4
      clear hgrow4
      clear hown hx hx12
      have hbc : Value.int .u8 (b : Int) = byteV (UInt8.ofNat b) := by
        unfold byteV
        rw [show (UInt8.ofNat b).toNat = b by simp; omega]
      rw [hbc] at hown4
      go_wp2_with fail
      go_meet
      exact ⟨L ++ [UInt8.ofNat b], own_snoc hown4, by simp; omega, hx4⟩
    · have hb3' : ¬ (b : Int) % 3 = 0 := by omega
      go_wp2_with fail
      go_meet
      exact ⟨L, hown, by omega, hx⟩
  case rest =>
    clear hown hx12 hlen
    obtain ⟨M, hown, hMl, hx⟩ := hcut
    go_wp2
    go_loopw [12, 13] (fun o qv wr => ∃ (q : Nat) (M : List UInt8), q ≤ s.size ∧ qv = .int .i64 q ∧ wr.ownsRow w1.heap.size 5 1 o M.length (M.map byteV) ∧ M.length ≤ N + 1 + q ∧ Ext w1 wr) (fun _ qv _ => s.size - (intOf qv).toNat)
    case atStart => exact ⟨0, M, Nat.zero_le _, rfl, hown, hMl, hx⟩
    case round =>
      clear hown hx hMl
      obtain ⟨q, M, hq, rfl, hown, hMl, hx⟩ := hrel
      by_cases hql : q < s.size
      · skip
        go_wp2_with (at_builtin; refine wpList_append_own _ rfl _ _ 22 rfl w1.heap.size 5 i0 (.int .u8 0) 1 1 Tryz.underlying22 hi hz0 hz1 hz2 rfl (by decide) _ M.length (M.map byteV) rfl (hown.alloc _) ⟨wr.heap.size, 0, none⟩ 1 1 [.int .u8 (s[q].toNat : Int)] rfl rfl ?c1 ?c2 ?c3 ?c4 ?c5 ?_)
        case c1 => exact cell_one_new _ (.int .u8 (s[q].toNat : Int)) 5
        case c2 => simp [Value.oneCell']
        case c3 => unfold maxLen; omega
        case c4 => omega
        case c5 => have := hx.size; simp; omega
        intro v' w4 hown4 hgrow4 _
        have hx4 := ext_grown hx hown hgrow4
        clear hgrow4
        clear hown hx
        go_wp2
        go_roundw
        case rel => exact ⟨q + 1, M ++ [s[q]], by omega, by go_num, own_snoc hown4, by simp; omega, hx4⟩
        case measure => simp [intOf]; omega
      · obtain rfl : q = s.size := by omega
        have hfin : ∀ J : Nat, J ≤ N → ((t.drop J).map byteV).length = (N - J) * 1 := fun J hJ => by simp; omega
        have hcd : ∀ (J : Nat) (W : World), J ≤ N → Ext w1 W → ∀ j u, ((t.drop J).map byteV)[j]? = some u → W.cell? ((⟨G, J, none⟩ : Addr).add j) = some u := by
          intro J W hJ hW j u h
          rw [List.getElem?_map] at h
          have hj : j < N - J := by
            have := (List.getElem?_eq_some_iff.1 (Option.map_eq_some_iff.1 h).choose_spec.1).1
            simp at this; omega
          rw [List.getElem?_drop, List.getElem?_eq_getElem (by omega)] at h
          simp at h
          rw [← h]
          have := hcv W hW (J + j) (by omega)
          rw [getD_lt _ _ _ (by omega)] at this
          by_cases hj0 : j = 0
          · subst hj0; simpa [Addr.add] using this
          · simpa [Addr.add, hj0] using this
        by_cases hb5 : b % 5 = 1
        · have hb5' : (b : Int) % 5 = 1 := by omega
          by_cases hIN : I < N
          · skip
            have hJN : I + 1 ≤ N := by omega
            by_cases hcJ : cp = I + 1
            · have hN0 : N - (I + 1) = 0 := by omega
              have hdl : ([] : List UInt8).length = 0 := rfl
              go_wp2_with (at_builtin; refine wpList_append_own _ rfl _ _ 22 rfl w1.heap.size 5 i0 (.int .u8 0) 1 1 Tryz.underlying22 hi hz0 hz1 hz2 rfl (by decide) _ M.length (M.map byteV) rfl hown ⟨G, 0, none⟩ 0 0 (([] : List UInt8).map byteV) rfl rfl ?c1 ?c2 ?c3 ?c4 ?c5 ?_)
              case c1 => intro j u h; simp at h
              case c2 => intro u hu; first | (rw [List.mem_map] at hu; obtain ⟨c, -, rfl⟩ := hu; rfl) | (cases hu)
              case c3 => unfold maxLen; omega
              case c4 => omega
              case c5 => exact hx.size
              intro v4 w4 hown4 hgrow4 _
              have hx4 := Lib.hid (hx01.out.trans (show Ext w1 w4 from Below.grown hx hgrow4 hx.size (fun k hk => (hown.lt k hk).1)))
              have hown5 : w4.ownsRow w1.heap.size 5 1 v4 (M ++ []).length ((M ++ []).map byteV) := by
                rw [List.length_append, List.map_append, hdl]; simpa using hown4
              obtain ⟨a5, c5, rfl, e1, e2⟩ := own_bytes hown5
              have hend := Lib.hid (And.intro e1 (And.intro e2 (show (M ++ []).length ≤ 50000 by rw [List.length_append, hdl]; omega)))
              clear hown4 hown5 hgrow4 hown hx e1 e2 hfin hcd hcv hdl
              generalize M ++ [] = R at *
              go_wp2
              go_ret
              exact ⟨a5, c5, R, rfl, hend.out.1, hend.out.2.2, hend.out.2.1, hx4.out⟩
            · have hcJ' : ¬ cp - (I + 1) = 0 := by omega
              have hdl : (t.drop (I + 1)).length = N - (I + 1) := by simp; omega
              go_wp2_with (at_builtin; refine wpList_append_own _ rfl _ _ 22 rfl w1.heap.size 5 i0 (.int .u8 0) 1 1 Tryz.underlying22 hi hz0 hz1 hz2 rfl (by decide) _ M.length (M.map byteV) rfl hown ⟨G, I + 1, none⟩ (N - (I + 1)) (cp - (I + 1)) ((t.drop (I + 1)).map byteV) rfl (hfin (I + 1) hJN) ?c1 ?c2 ?c3 ?c4 ?c5 ?_)
              case c1 => exact hcd (I + 1) _ hJN hx
              case c2 => intro u hu; first | (rw [List.mem_map] at hu; obtain ⟨c, -, rfl⟩ := hu; rfl) | (cases hu)
              case c3 => unfold maxLen; omega
              case c4 => omega
              case c5 => exact hx.size
              intro v4 w4 hown4 hgrow4 _
              have hx4 := Lib.hid (hx01.out.trans (show Ext w1 w4 from Below.grown hx hgrow4 hx.size (fun k hk => (hown.lt k hk).1)))
              have hown5 : w4.ownsRow w1.heap.size 5 1 v4 (M ++ t.drop (I + 1)).length ((M ++ t.drop (I + 1)).map byteV) := by
                rw [List.length_append, List.map_append, hdl]; simpa using hown4
              obtain ⟨a5, c5, rfl, e1, e2⟩ := own_bytes hown5
              have hend := Lib.hid (And.intro e1 (And.intro e2 (show (M ++ t.drop (I + 1)).length ≤ 50000 by rw [List.length_append, hdl]; omega)))
              clear hown4 hown5 hgrow4 hown hx e1 e2 hfin hcd hcv hdl
              generalize M ++ t.drop (I + 1) = R at *
              go_wp2
              go_ret
              exact ⟨a5, c5, R, rfl, hend.out.1, hend.out.2.2, hend.out.2.1, hx4.out⟩
          · skip
            have hJN : I ≤ N := by omega
            by_cases hcJ : cp = I
            · have hN0 : N - (I) = 0 := by omega
              have hdl : ([] : List UInt8).length = 0 := rfl
              go_wp2_with (at_builtin; refine wpList_append_own _ rfl _ _ 22 rfl w1.heap.size 5 i0 (.int .u8 0) 1 1 Tryz.underlying22 hi hz0 hz1 hz2 rfl (by decide) _ M.length (M.map byteV) rfl hown ⟨G, 0, none⟩ 0 0 (([] : List UInt8).map byteV) rfl rfl ?c1 ?c2 ?c3 ?c4 ?c5 ?_)
              case c1 => intro j u h; simp at h
              case c2 => intro u hu; first | (rw [List.mem_map] at hu; obtain ⟨c, -, rfl⟩ := hu; rfl) | (cases hu)
              case c3 => unfold maxLen; omega
              case c4 => omega
              case c5 => exact hx.size
              intro v4 w4 hown4 hgrow4 _
              have hx4 := Lib.hid (hx01.out.trans (show Ext w1 w4 from Below.grown hx hgrow4 hx.size (fun k hk => (hown.lt k hk).1)))
              have hown5 : w4.ownsRow w1.heap.size 5 1 v4 (M ++ []).length ((M ++ []).map byteV) := by
                rw [List.length_append, List.map_append, hdl]; simpa using hown4
              obtain ⟨a5, c5, rfl, e1, e2⟩ := own_bytes hown5
              have hend := Lib.hid (And.intro e1 (And.intro e2 (show (M ++ []).length ≤ 50000 by rw [List.length_append, hdl]; omega)))
              clear hown4 hown5 hgrow4 hown hx e1 e2 hfin hcd hcv hdl
              generalize M ++ [] = R at *
              go_wp2
              go_ret
              exact ⟨a5, c5, R, rfl, hend.out.1, hend.out.2.2, hend.out.2.1, hx4.out⟩
            · have hcJ' : ¬ cp - (I) = 0 := by omega
              have hdl : (t.drop (I)).length = N - (I) := by simp; omega
              go_wp2_with (at_builtin; refine wpList_append_own _ rfl _ _ 22 rfl w1.heap.size 5 i0 (.int .u8 0) 1 1 Tryz.underlying22 hi hz0 hz1 hz2 rfl (by decide) _ M.length (M.map byteV) rfl hown ⟨G, I, none⟩ (N - (I)) (cp - (I)) ((t.drop (I)).map byteV) rfl (hfin (I) hJN) ?c1 ?c2 ?c3 ?c4 ?c5 ?_)
              case c1 => exact hcd (I) _ hJN hx
              case c2 => intro u hu; first | (rw [List.mem_map] at hu; obtain ⟨c, -, rfl⟩ := hu; rfl) | (cases hu)
              case c3 => unfold maxLen; omega
              case c4 => omega
              case c5 => exact hx.size
              intro v4 w4 hown4 hgrow4 _
              have hx4 := Lib.hid (hx01.out.trans (show Ext w1 w4 from Below.grown hx hgrow4 hx.size (fun k hk => (hown.lt k hk).1)))
              have hown5 : w4.ownsRow w1.heap.size 5 1 v4 (M ++ t.drop (I)).length ((M ++ t.drop (I)).map byteV) := by
                rw [List.length_append, List.map_append, hdl]; simpa using hown4
              obtain ⟨a5, c5, rfl, e1, e2⟩ := own_bytes hown5
              have hend := Lib.hid (And.intro e1 (And.intro e2 (show (M ++ t.drop (I)).length ≤ 50000 by rw [List.length_append, hdl]; omega)))
              clear hown4 hown5 hgrow4 hown hx e1 e2 hfin hcd hcv hdl
              generalize M ++ t.drop (I) = R at *
              go_wp2
              go_ret
              exact ⟨a5, c5, R, rfl, hend.out.1, hend.out.2.2, hend.out.2.1, hx4.out⟩
        · have hb5' : ¬ (b : Int) % 5 = 1 := by omega
          have hJN : I ≤ N := by omega
          by_cases hcJ : cp = I
          · have hN0 : N - (I) = 0 := by omega
            have hdl : ([] : List UInt8).length = 0 := rfl
            go_wp2_with (at_builtin; refine wpList_append_own _ rfl _ _ 22 rfl w1.heap.size 5 i0 (.int .u8 0) 1 1 Tryz.underlying22 hi hz0 hz1 hz2 rfl (by decide) _ M.length (M.map byteV) rfl hown ⟨G, 0, none⟩ 0 0 (([] : List UInt8).map byteV) rfl rfl ?c1 ?c2 ?c3 ?c4 ?c5 ?_)
            case c1 => intro j u h; simp at h
            case c2 => intro u hu; first | (rw [List.mem_map] at hu; obtain ⟨c, -, rfl⟩ := hu; rfl) | (cases hu)
            case c3 => unfold maxLen; omega
            case c4 => omega
            case c5 => exact hx.size
            intro v4 w4 hown4 hgrow4 _
            have hx4 := Lib.hid (hx01.out.trans (show Ext w1 w4 from Below.grown hx hgrow4 hx.size (fun k hk => (hown.lt k hk).1)))
            have hown5 : w4.ownsRow w1.heap.size 5 1 v4 (M ++ []).length ((M ++ []).map byteV) := by
              rw [List.length_append, List.map_append, hdl]; simpa using hown4
            obtain ⟨a5, c5, rfl, e1, e2⟩ := own_bytes hown5
            have hend := Lib.hid (And.intro e1 (And.intro e2 (show (M ++ []).length ≤ 50000 by rw [List.length_append, hdl]; omega)))
            clear hown4 hown5 hgrow4 hown hx e1 e2 hfin hcd hcv hdl
            generalize M ++ [] = R at *
            go_wp2
            go_ret
            exact ⟨a5, c5, R, rfl, hend.out.1, hend.out.2.2, hend.out.2.1, hx4.out⟩
          · have hcJ' : ¬ cp - (I) = 0 := by omega
            have hdl : (t.drop (I)).length = N - (I) := by simp; omega
            go_wp2_with (at_builtin; refine wpList_append_own _ rfl _ _ 22 rfl w1.heap.size 5 i0 (.int .u8 0) 1 1 Tryz.underlying22 hi hz0 hz1 hz2 rfl (by decide) _ M.length (M.map byteV) rfl hown ⟨G, I, none⟩ (N - (I)) (cp - (I)) ((t.drop (I)).map byteV) rfl (hfin (I) hJN) ?c1 ?c2 ?c3 ?c4 ?c5 ?_)
            case c1 => exact hcd (I) _ hJN hx
            case c2 => intro u hu; first | (rw [List.mem_map] at hu; obtain ⟨c, -, rfl⟩ := hu; rfl) | (cases hu)
            case c3 => unfold maxLen; omega
            case c4 => omega
            case c5 => exact hx.size
            intro v4 w4 hown4 hgrow4 _
            have hx4 := Lib.hid (hx01.out.trans (show Ext w1 w4 from Below.grown hx hgrow4 hx.size (fun k hk => (hown.lt k hk).1)))
            have hown5 : w4.ownsRow w1.heap.size 5 1 v4 (M ++ t.drop (I)).length ((M ++ t.drop (I)).map byteV) := by
              rw [List.length_append, List.map_append, hdl]; simpa using hown4
            obtain ⟨a5, c5, rfl, e1, e2⟩ := own_bytes hown5
            have hend := Lib.hid (And.intro e1 (And.intro e2 (show (M ++ t.drop (I)).length ≤ 50000 by rw [List.length_append, hdl]; omega)))
            clear hown4 hown5 hgrow4 hown hx e1 e2 hfin hcd hcv hdl
            generalize M ++ t.drop (I) = R at *
            go_wp2
            go_ret
            exact ⟨a5, c5, R, rfl, hend.out.1, hend.out.2.2, hend.out.2.1, hx4.out⟩

end Go.Proofs.YtdgcgpapcbjfhaaGreatDoor
