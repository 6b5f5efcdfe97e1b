/- known: a gate that admits once. -/
import Derived.Test.YtdgcgpapcbjfhaaGreatDoorJ37All
import Derived.Test.YtdgcgpapcbjfhaaGreatDoorJ09CfgE
import Derived.Test.YtdgcgpapcbjfhaaGreatDoorJ44TabDel
import Derived.Test.YtdgcgpapcbjfhaaGreatDoorJ27Same
import Derived.Laws.StructEq
import Derived.Test.YtdgcgpapcbjfhaaGreatDoorJ45KnownC
import Derived.Lib.SmallJoins
set_option linter.unusedVariables false
set_option linter.unusedSimpArgs false

/- taken: what both read of a request and of a text of rules, and what a gate tells. -/
namespace Go.Proofs.YtdgcgpapcbjfhaaGreatDoor
open Go.RowKit

theorem adds0 : Adds 0 0 4607182418800017408 0 0 4607182418800017408 := ⟨fun w => by kernel_rfl, fun w => by kernel_rfl⟩

/-- what a gate tells of a key where no key is -/
theorem pCharge0 (t : Nat) (mo ck : Int) (mb mk : Nat) (k : List UInt8) (hk : kRight k = true) (r : Rl) (hr : okR r) (n : Int) (hn : U n) (hck : U ck) (h1 : 1 ≤ mo) (w : World) (hT : TabAt w t mo ck mb #[] mk) :
    Calls Tryz.prog 94 #[.pointer (some ⟨t, 0, none⟩), .string (strOf k), rlV r, .int .u64 n] w fun e w' => ∃ a es' mk', e = .returned (ansV a) ∧ (a.code = 1 ∨ a.code = 2) ∧ TabAt w' t mo ck mb es' mk' ∧ But (fun j => j = mb) w w' := by
  have htl : t < w.heap.size := World.block_lt_of_cell? w _ hT.c0
  have hml : mb < w.heap.size := (Array.getElem?_eq_some_iff.1 hT.m).1
  refine (pCharge t mo ck mb #[] mk k hk r hr n hn hck false (r.ev * r.bu) (umul n r.ev) rfl rfl ⟨#[]⟩ ⟨#[]⟩ 0 0 0 0 0 0 ⟨by omega, by omega⟩ ⟨by omega, by omega⟩ w htl hml (fun _ => by simp; omega)
    (oK r.kd) (oA r.kd ck (r.ev * r.bu) 0) (oB r.kd ck) rfl rfl rfl (fun h => by cases h) (fun _ => rfl) (says0 t mo ck mb mk k r w hT)).mono ?_
  rintro e w' ⟨a, he, hc, -, hT', hb⟩
  refine ⟨a, _, _, he, ?_, hT', hb⟩
  rw [hc]
  cases dok (oK r.kd) (oA r.kd ck (r.ev * r.bu) 0) (oB r.kd ck) ck (r.ev * r.bu) (umul n r.ev)
  · exact .inr rfl
  · exact .inl rfl

theorem fieldsPlace : Tryz.prog.underlying 57 = some (.struct (Tryz.prog.fieldsOf 57)) := by kernel_rfl
theorem stoodPlace : Tryz.prog.stoodInHeld 57 = false := by kernel_rfl
theorem neq_place (a b : Int) (w : World) : (binOp BinOp.neq 57 (.agg #[.int .i64 a, .int .i64 b]) (.agg #[.int .i64 a, .int .i64 b])).run Tryz.prog w = .ok (.bool false) w := by
  rw [run_neq_struct, run_equalIn_agg _ _ _ _ _ fieldsPlace stoodPlace]
  simp [go_sem]

set_option maxRecDepth 100000 in
set_option maxHeartbeats 3200000 in
theorem pTaken (ba ta : Option Addr) (bc tc : Nat) (l tx : List UInt8) (hl : l.length ≤ 900000) (ht : tx.length ≤ 900000) (hcap : tx.length ≤ tc) (w : World) (hb : IsBytes w ba l) (htb : IsBytes w ta tx) :
    Calls Tryz.prog 9 #[.slice ba l.length bc, .slice ta tx.length tc] w fun e w' => e = .returned (.bool true) ∧ Ext w w' := by
  have hAs := fun W (hx : Ext w W) => pAsk ba bc l (by omega) W (hb.ext hx)
  have hRa := fun W (hx : Ext w W) => rAsk ba bc l (by omega) W (hb.ext hx)
  have hCf := fun W (hx : Ext w W) => pCfg ta tc tx ht hcap W (htb.ext hx)
  have hRc := fun W (hx : Ext w W) => rCfg ta tc tx ht hcap W (htb.ext hx)
  have hDr := fun g t mb (hgt : g ≠ t) W (hx : Ext w W) (hg : GateAt W g t none none 0 0) (hT : TabAt W t 1 0 mb #[] 0) => pDoReload g t none none 0 0 1 0 (by omega) mb 0 0 0 ta tc ⟨#[]⟩ tx ht hcap W (htb.ext hx) hg hT hgt
  have hFb := cfg_b tx
  have hFl := cfg_len tx
  have hok := Lib.hid (cfg_okk tx)
  have hEb := aE_b l
  have hkR := Lib.hid (fun h : aE l = 0 => aK_right h)
  have hVU := aV_U l
  generalize hC : cfg tx = C at *
  obtain ⟨⟨m, rs⟩, F, p1, p2⟩ := C
  dsimp only at *
  have hSm := fun v v' W h1 h2 => rSame m v v' rs (by omega) W h1 h2
  have hNp := neq_place p1 p2
  unfold plV at hCf hRc hSm
  clear hC
  go_enter Tryz.func9, Tryz.ntmps9
  go_wp2_with fail
  refine (hAs w (Ext.refl w)).mono ?_
  rintro e w1 ⟨kk, rfl, hkk, hx1⟩
  obtain rfl := strOf_bsK kk _ hkk
  clear hkk
  go_wp2_with fail
  refine (hRa w1 hx1).mono ?_
  rintro e w2 ⟨k2, rfl, hk2, hx2⟩
  obtain rfl := strOf_bsK k2 _ hk2
  have hx02 := Lib.hid (hx1.trans hx2)
  clear hk2 hx1 hx2 hRa hAs
  go_wp2_with fail
  refine (hCf w2 hx02.out).mono ?_
  rintro e w3 ⟨v, rfl, hv, hx3⟩
  obtain ⟨va, vc, rfl, -⟩ := hv.form
  have hx03 := Lib.hid (hx02.out.trans hx3)
  have hvH := Lib.hid hv
  clear hv hx3 hx02 hCf
  go_wp2_with fail
  refine (hRc _ (hx03.out.trans (((Ext.refl w3).alloc _).alloc _))).mono ?_
  rintro e w4 ⟨v', rfl, hv', hx4⟩
  obtain ⟨va', vc', rfl, -⟩ := hv'.form
  obtain ⟨B, hB⟩ : ∃ B, w3.heap.size = B := ⟨_, rfl⟩
  have c0 : w4.cell? ⟨B, 0, none⟩ = some (.int .i64 m) := by subst hB; exact hx4.reads (by go_simp)
  have c1 : w4.cell? ⟨B, 1, none⟩ = some (.slice va rs.length vc) := by subst hB; exact hx4.reads (by go_simp)
  have d0 : w4.cell? ⟨B + 1, 0, none⟩ = some (.int .i64 p1) := by subst hB; exact hx4.reads (by go_simp)
  have d1 : w4.cell? ⟨B + 1, 1, none⟩ = some (.int .i64 p2) := by subst hB; exact hx4.reads (by go_simp)
  have hx34 : Ext w3 w4 := Ext.past (Ext.past hx4)
  have hBl : B < w4.heap.size := World.block_lt_of_cell? w4 _ c0
  have hBl1 : B + 1 < w4.heap.size := World.block_lt_of_cell? w4 _ d0
  have hv4 := Lib.hid (hvH.out.ext hx34)
  have hv4' := Lib.hid hv'
  have hx04 := Lib.hid (hx03.out.trans hx34)
  rw [hB]
  clear hB hx34 hx4 hv' hvH hx03 hRc
  go_wp2_with fail
  refine (hSm (.slice va rs.length vc) (.slice va' rs.length vc') _ (hv4.out.ext (((Ext.refl w4).alloc _).alloc _)) (hv4'.out.ext (((Ext.refl w4).alloc _).alloc _))).mono ?_
  rintro e w6 ⟨rfl, hx6⟩
  obtain ⟨B', hB'⟩ : ∃ B, w4.heap.size = B := ⟨_, rfl⟩
  have e0 : w6.cell? ⟨B' + 1, 0, none⟩ = some (.int .i64 p1) := by subst hB'; exact hx6.reads (by go_simp)
  have e1 : w6.cell? ⟨B' + 1, 1, none⟩ = some (.int .i64 p2) := by subst hB'; exact hx6.reads (by go_simp)
  have hx46 : Ext w4 w6 := Ext.past (Ext.past hx6)
  have f0 := hx46.reads d0
  have f1 := hx46.reads d1
  have hx06 := Lib.hid (hx04.out.trans hx46)
  rw [hB']
  clear hB' hx46 hx6 c0 c1 d0 d1 hBl hBl1 hx04 hv4 hv4' hSm
  go_wp2_with fail
  refine (pGateNew w6).mono ?_
  rintro e w7 ⟨g, t, mb, rfl, hg, hT, hgs, hts, hms, hgt, hgm, hx7⟩
  have hx07 := Lib.hid (hx06.out.trans hx7)
  have hlow := Lib.hid (And.intro hgs (And.intro hts hms))
  have hgl : Hid (g < w7.heap.size ∧ t < w7.heap.size) := Lib.hid ⟨World.block_lt_of_cell? w7 _ hg.c0, World.block_lt_of_cell? w7 _ hT.c0⟩
  have hs06 := Lib.hid hx06.out.size
  clear e0 e1 f0 f1 hx06 hx7 hgs hts hms hgm
  unfold opV at hDr
  go_wp2_with fail
  refine (hDr g t mb hgt w7 hx07.out hg hT).mono ?_
  rintro e w8 ⟨⟨xc, xe, xl, xf, xr, xa, xn, xt, xm⟩, rfl, hbt8, hd8⟩
  have hgt' := Lib.hid hgt
  clear hDr hgt
  have hx08 : Ext w w8 := Ext.ofBut ((But.of_ext (S := fun _ => False) hx07.out).fresh hbt8 (by
    have h1 := hlow.out; have h2 := hs06.out
    rintro i (rfl | rfl) <;> omega))
  have hgl8 : Hid (g < w8.heap.size ∧ t < w8.heap.size) := Lib.hid ⟨Nat.lt_of_lt_of_le hgl.out.1 hbt8.size, Nat.lt_of_lt_of_le hgl.out.2 hbt8.size⟩
  obtain ⟨A1, hA1⟩ : ∃ A, w8.heap.size = A := ⟨_, rfl⟩
  simp only [ansV]
  have hd8H := Lib.hid hd8
  have hgH := Lib.hid hg
  clear hd8 hg hT
  go_wp2_with fail
  obtain ⟨W9, hW9⟩ : ∃ W, w8.alloc (.cells #[.int .u8 xc, .int .u16 xe, .int .u64 xl, .int .u64 xf, .int .u64 xr, .int .u64 xa, .int .u64 xn, .bool xt, .int .i64 xm, .slice none 0 0] 43) = W := ⟨_, rfl⟩
  have hx89 : Ext w8 W9 := by rw [← hW9]; exact (Ext.refl w8).alloc _
  have j1 : W9.cell? ⟨A1, 0, none⟩ = some (.int .u8 xc) := by subst hW9 hA1; go_simp
  have hx09 := Lib.hid (hx08.trans hx89)
  have hA1H := Lib.hid hA1
  have hb9 := Lib.hid (hb.ext hx09.out)
  have hgs : Hid (w.heap.size ≤ g) := Lib.hid (by have h1 := hlow.out.1; have h2 := hs06.out; omega)
  have hx89H := Lib.hid hx89
  have hx07H := Lib.hid hx07
  rw [hW9]
  clear hbt8 hlow hs06 hx07 hx08 hW9 hA1 hx89 hb htb
  have hD2 : Calls Tryz.prog 18 #[.pointer (some ⟨g, 0, none⟩), opV 2 0 (.slice ba l.length bc) ⟨#[]⟩ 0] W9 fun e w10 => ∃ a has, e = .returned (ansV a) ∧ Ext w w10 ∧ w10.cell? ⟨A1, 0, none⟩ = some (.int .u8 xc) ∧
      (∀ W, Ext w10 W → Calls Tryz.prog 19 #[.pointer (some ⟨g, 0, none⟩)] W fun e w'' => ∃ (m' : Int) (v' : Option Addr) (n' c' : Nat), e = .returned (.tuple #[.agg #[.int .i64 m', .slice v' n' c'], .bool has]) ∧ Ext W w'') ∧
      ((F ≠ 0 ∧ xc = 7 ∧ has = false) ∨ (F = 0 ∧ xc = 6 ∧ has = true)) ∧ ((aE l ≠ 0 ∧ a.code = 5) ∨ (aE l = 0 ∧ F ≠ 0 ∧ a.code = 4) ∨ (aE l = 0 ∧ F = 0 ∧ (a.code = 1 ∨ a.code = 2))) := by
    have hgA : A1 ≠ g := by have h1 := hgl8.out.1; have h2 := hA1H.out; omega
    rcases hd8H.out with ⟨hF, hc, hx8⟩ | ⟨hF, hc, t2, P, T, v2, G, mb2, hG8, hm2, -⟩
    · have hg9 := hgH.out.ext (hx8.trans hx89H.out)
      by_cases hE : aE l = 0
      · refine (pDoNone g t none 0 0 0 0 ba bc ⟨#[]⟩ l (by omega) W9 hb9.out hg9 hE _ _ _ _ adds0).mono ?_
        rintro e w10 ⟨a, rfl, h1, h2, h3⟩
        refine ⟨a, false, rfl, hx09.out.set1 h3 hgs.out, h3.cell j1 hgA, fun W hx => ?_, .inl ⟨hF, hc, rfl⟩, .inr (.inl ⟨hE, hF, h1⟩)⟩
        exact (pPolNone g t none _ _ W (h2.ext hx)).mono fun e w'' h => ⟨0, none, 0, 0, h.1, h.2⟩
      · refine (pDoBad g 0 0 ba bc ⟨#[]⟩ l (by omega) W9 hb9.out hE).mono ?_
        rintro e w10 ⟨a, rfl, h1, h2⟩
        refine ⟨a, false, rfl, hx09.out.trans h2, h2.reads j1, fun W hx => ?_, .inl ⟨hF, hc, rfl⟩, .inl ⟨hE, h1⟩⟩
        exact (pPolNone g t none _ _ W (hg9.ext (h2.trans hx))).mono fun e w'' h => ⟨0, none, 0, 0, h.1, h.2⟩
    · have hG9 := hG8.ext hx89H.out
      obtain ⟨o1, o2, o3, o4, o5, o6⟩ := hok.out hF
      have hne : rs ≠ [] := fun e => by rw [e] at o6; cases o6
      by_cases hE : aE l = 0
      · refine (pDoR g t2 P T m mb2 0 v2 0 rs G #[] 0 0 0 0 ba bc ⟨#[]⟩ l (by omega) W9 hb9.out hG9 hE _ _ _ _ adds0 (fun a _ _ => a.code = 1 ∨ a.code = 2) (fun r hr w' hx => pCharge0 t2 m 0 mb2 0 (aK l) (hkR.out hE) r (o4 r hr) (aV l) hVU ⟨by omega, by omega⟩ (by omega) w' (hG9.tab.ext hx))).mono ?_
        rintro e w10 ⟨a, es', mk', rfl, h1, ⟨x', y', -, -, h2⟩, h3⟩
        have hmA : A1 ≠ mb2 := by
          have h4 := (Array.getElem?_eq_some_iff.1 hG8.tab.m).1
          have h5 := hA1H.out
          omega
        refine ⟨a, true, rfl, Ext.ofBut ((But.of_ext (S := fun _ => False) hx09.out).fresh h3 (by have h4 := hgs.out; have h5 := hx07H.out.size; rintro i (rfl | rfl) <;> omega)), h3.cell j1 (by rintro (h | h) <;> contradiction), fun W hx => ?_, .inr ⟨hF, hc, rfl⟩, .inr (.inr ⟨hE, hF, h1⟩)⟩
        exact (pPolSome g t2 P T m mb2 mk' v2 0 rs G es' x' y' W (h2.ext hx) hne (by omega) o5).mono fun e w'' ⟨a, b, c, h⟩ => ⟨m, a, b, c, h⟩
      · refine (pDoBad g 0 0 ba bc ⟨#[]⟩ l (by omega) W9 hb9.out hE).mono ?_
        rintro e w10 ⟨a, rfl, h1, h2⟩
        refine ⟨a, true, rfl, hx09.out.trans h2, h2.reads j1, fun W hx => ?_, .inr ⟨hF, hc, rfl⟩, .inl ⟨hE, h1⟩⟩
        exact (pPolSome g t2 P T m mb2 0 v2 0 rs G #[] 0 0 W (hG9.ext (h2.trans hx)) hne (by omega) o5).mono fun e w'' ⟨a, b, c, h⟩ => ⟨m, a, b, c, h⟩
  unfold opV at hD2
  refine hD2.mono ?_
  rintro e w10 ⟨⟨yc, ye, yl, yf, yr, ya, yn, yt, ym⟩, has, rfl, hx10, k1, hPol, hD⟩
  have hx10H := Lib.hid hx10
  have hDH := Lib.hid hD
  clear hD2 hD hx10 hd8H hgH hok
  simp only [ansV]
  go_wp2_with fail
  refine (hPol _ ((Ext.refl w10).alloc _)).mono ?_
  rintro e w11 ⟨m', v', n', c', rfl, hx11⟩
  have q1 : w11.cell? ⟨A1, 0, none⟩ = some (.int .u8 xc) := hx11.reads (((Ext.refl w10).alloc _).reads k1)
  obtain ⟨A2, hA2⟩ : ∃ A, w10.heap.size = A := ⟨_, rfl⟩
  have q2 : w11.cell? ⟨A2, 0, none⟩ = some (.int .u8 yc) := by subst hA2; exact hx11.reads (by go_simp)
  have hxf := Lib.hid (hx10H.out.trans (Ext.past hx11))
  have hA1l : A1 < w11.heap.size := World.block_lt_of_cell? w11 _ q1
  have hA2l : A2 < w11.heap.size := World.block_lt_of_cell? w11 _ q2
  have hRK := fun W => rKey (strOf (aK l)) W
  rw [bs_strOf] at hRK
  rw [hA2]
  clear hA2 hx11 k1 hPol hx10H j1 hx89H
  have hxx : ∀ w', Ext w11 w' → Ext w w' := fun w' h => hxf.out.trans h
  rcases hDH.out with ⟨h12, ⟨hE, h3⟩ | ⟨hE, hF', h3⟩ | ⟨hE, hF', h3⟩⟩
  · have n1 : (aE l != 0) = true := by simp [hE]
    have n2 : (aE l == 0) = false := by simp [hE]
    rcases h12 with ⟨hF, h1, rfl⟩ | ⟨hF, h1, rfl⟩
    all_goals
      subst h1 h3
      go_wp2
      go_ret
      exact ⟨rfl, hxx _ (by repeat (first | exact Ext.refl _ | assumption | apply Ext.drew | apply Ext.alloc | (refine Ext.setCell ?_ (by simp <;> omega) _) | refine Ext.trans ?_ (by assumption)))⟩
  · rcases h12 with ⟨hF, h1, rfl⟩ | ⟨hF, h1, rfl⟩
    · have hk := hkR.out hE
      rw [hk] at hRK
      have n1 : (F != 0) = true := by simp [hF]
      have n2 : (F == 0) = false := by simp [hF]
      subst h1 h3
      go_wp2_with fail
      refine (hRK _).mono ?_
      rintro e w12 ⟨rfl, rfl⟩
      go_wp2
      go_ret
      exact ⟨rfl, hxx _ (by repeat (first | exact Ext.refl _ | assumption | apply Ext.drew | apply Ext.alloc | (refine Ext.setCell ?_ (by simp <;> omega) _) | refine Ext.trans ?_ (by assumption)))⟩
    · exact absurd hF hF'
  · rcases h12 with ⟨hF, h1, rfl⟩ | ⟨hF, h1, rfl⟩
    · exact absurd hF' hF
    · have hk := hkR.out hE
      rw [hk] at hRK
      rcases h3 with h3 | h3
      all_goals
        subst h1 h3
        go_wp2_with fail
        refine (hRK _).mono ?_
        rintro e w12 ⟨rfl, rfl⟩
        go_wp2
        go_ret
        exact ⟨rfl, hxx _ (by repeat (first | exact Ext.refl _ | assumption | apply Ext.drew | apply Ext.alloc | (refine Ext.setCell ?_ (by simp <;> omega) _) | refine Ext.trans ?_ (by assumption)))⟩

end Go.Proofs.YtdgcgpapcbjfhaaGreatDoor

/- known: a gate that admits once. -/
namespace Go.Proofs.YtdgcgpapcbjfhaaGreatDoor
open Go.RowKit

/-- all of a gate lies below N -/
structure RLow (N g t P : Nat) (v : Value) (G : GT) (mb : Nat) : Prop where
  g : g < N
  t : t < N
  p : P < N
  m : mb < N
  v : ∀ x, v.ownBlock = some x → x < N
  s : ∀ b ∈ G.S, b < N ∧ G.mb b < N
  r : ∀ b ∈ G.S, ∀ x, G.ru b = some x → x < N
theorem RulesGate.low {w : World} {g t P T : Nat} {v : Value} {m : Nat} {ck : Int} {rs : List Rl} {G : GT} {mb : Nat} {es : Array MapEntry} {mk tx ty : Nat} (h : RulesGate w g t P T v m ck rs G mb es mk tx ty) : RLow w.heap.size g t P v G mb := by
  refine ⟨World.block_lt_of_cell? w _ h.gate.c0, World.block_lt_of_cell? w _ h.tab.c0, World.block_lt_of_cell? w _ h.p0, (Array.getElem?_eq_some_iff.1 h.tab.m).1, fun x hx => (h.rules.2.lt x hx).2, fun b hb => ⟨h.tree.lt hb, h.tree.mlt hb⟩, fun b hb x hx => ?_⟩
  obtain ⟨r, -, hr⟩ := h.tree.rul b hb x hx
  exact World.block_lt_of_cell? w _ hr.1
theorem RulesGate.keep {w w' : World} {N g t P T : Nat} {v : Value} {m : Nat} {ck : Int} {rs : List Rl} {G : GT} {mb : Nat} {es : Array MapEntry} {mk tx ty : Nat} (h : RulesGate w g t P T v m ck rs G mb es mk tx ty) (hl : RLow N g t P v G mb) (hb : But (fun i => N ≤ i) w w') : RulesGate w' g t P T v m ck rs G mb es mk tx ty :=
  ⟨h.gate.but hb (Nat.not_le.2 hl.g), h.tab.but hb (Nat.not_le.2 hl.t) (Nat.not_le.2 hl.m), hb.cell h.p0 (Nat.not_le.2 hl.p), hb.cell h.p1 (Nat.not_le.2 hl.p), h.rules.but hb (fun x hx => Nat.not_le.2 (hl.v x hx)), h.tree.but hb (fun b hs => Nat.not_le.2 (hl.s b hs).1) (fun b hs => Nat.not_le.2 (hl.s b hs).2) (fun b hs x hx => Nat.not_le.2 (hl.r b hs x hx)), h.dflt, h.apart⟩

/-- a gate by the rules of known -/
def RK (g M : Nat) (ck : Int) (es : Array MapEntry) (mk x y : Nat) (N : Nat) (w : World) : Prop :=
  ∃ t P T v G mb, RulesGate w g t P T v 1 ck [kR] G mb es mk x y ∧ RLow N g t P v G mb ∧ M ≤ g ∧ M ≤ t ∧ M ≤ mb
theorem RK.keep {g M : Nat} {ck : Int} {es : Array MapEntry} {mk x y N : Nat} {w w' : World} (h : RK g M ck es mk x y N w) (hb : But (fun i => N ≤ i) w w') : RK g M ck es mk x y N w' := by
  obtain ⟨t, P, T, v, G, mb, h1, h2, h3⟩ := h
  exact ⟨t, P, T, v, G, mb, h1.keep h2 hb, h2, h3⟩

def one64 : Nat := 4607182418800017408
def KSt (g M : Nat) : Nat → Nat → World → Prop
  | 0, N, w => ∃ t mb, GateAt w g t none none 0 0 ∧ TabAt w t 1 0 mb #[] 0 ∧ g ≠ t ∧ (M ≤ g ∧ g < N) ∧ (M ≤ t ∧ t < N) ∧ (M ≤ mb ∧ mb < N)
  | 1, N, w => RK g M 0 #[] 0 0 0 N w
  | 2, N, w => RK g M 0 #[kE] 1 one64 0 N w
  | 3, N, w => RK g M 0 #[kE] 1 one64 one64 N w
  | 4, N, w => RK g M 10 #[kE] 1 one64 one64 N w
  | _, _, _ => True
theorem KSt.keep (g M : Nat) : ∀ (k N : Nat) (A B : World), KSt g M k N A → But (fun i => N ≤ i) A B → KSt g M k N B
  | 0, N, A, B, h, hb => by
    obtain ⟨t, mb, h1, h2, h3, h4, h5, h6⟩ := h
    exact ⟨t, mb, h1.but hb (by omega), h2.but hb (by omega) (by omega), h3, h4, h5, h6⟩
  | 1, N, A, B, h, hb => RK.keep h hb
  | 2, N, A, B, h, hb => RK.keep h hb
  | 3, N, A, B, h, hb => RK.keep h hb
  | 4, N, A, B, h, hb => RK.keep h hb
  | _ + 5, _, _, _, _, _ => trivial
def KGood : Nat → Ans → Prop
  | 0, a => a.code = 6
  | 1, a => a.code = 1
  | 2, a => a.code = 2 ∧ a.nanos = 10
  | 4, a => a.code = 1
  | _, _ => True
def kKd : Nat → Int
  | 0 => 5
  | 3 => 1
  | _ => 2
def kTk : Nat → Int
  | 3 => 10
  | _ => 0
def kBn : Nat → Nat
  | 0 => 26
  | 3 => 0
  | _ => 9

/-- one of known's operations -/
theorem kStep (g M : Nat) (ba : Nat → Option Addr) (w : World) (hby : ∀ W, But (fun i => M ≤ i) w W → IsBytes W (ba 0) kText ∧ IsBytes W (ba 1) kAsk ∧ IsBytes W (ba 2) kAsk ∧ IsBytes W (ba 4) kAsk) (h3 : ba 3 = none) (k : Nat) (hk : k < 5) (N : Nat) (wr : World) (hS : KSt g M k N wr) (hMN : M ≤ N) (hNw : N ≤ wr.heap.size) (hbw : But (fun i => M ≤ i) w wr) :
    Calls Tryz.prog 18 #[.pointer (some ⟨g, 0, none⟩), opV (kKd k) (kTk k) (.slice (ba k) (kBn k) (kBn k)) ⟨#[]⟩ 0] wr fun e w' => ∃ a N', e = .returned (ansV a) ∧ KGood k a ∧ KSt g M (k + 1) N' w' ∧ N ≤ N' ∧ N' ≤ w'.heap.size ∧ (k = 0 ∨ N' = N) ∧ But (fun i => M ≤ i ∧ i < N) wr w' := by
  obtain ⟨b0, b1, b2, b4⟩ := hby wr hbw
  obtain rfl | rfl | rfl | rfl | rfl : k = 0 ∨ k = 1 ∨ k = 2 ∨ k = 3 ∨ k = 4 := by omega
  · obtain ⟨t, mb, h1, h2, h3, h4, h5, h6⟩ := hS
    refine (pDoReload g t none none 0 0 1 0 (by omega) mb 0 0 0 (ba 0) 26 ⟨#[]⟩ kText (by decide) (by decide) wr b0 h1 h2 h3).mono ?_
    rintro e w' ⟨a, he, hb, hc⟩
    rw [kText_cfg] at hc
    rcases hc with ⟨h, -, -⟩ | ⟨-, hc, t2, P, T, v, G, mb2, hG, hm, ht⟩
    · exact absurd rfl h
    · exact ⟨a, w'.heap.size, he, hc, ⟨t2, P, T, v, G, mb2, hG, hG.low, h4.1, by omega, by omega⟩, by have := hb.size; omega, Nat.le_refl _, .inl rfl, hb.mono (by rintro i (rfl | rfl) <;> assumption)⟩
  · obtain ⟨t, P, T, v, G, mb, hG, hl, h4, h5, h6⟩ := hS
    refine (pDoR g t P T 1 mb 0 v 0 [kR] G #[] 0 0 0 0 (ba 1) 9 ⟨#[]⟩ kAsk (by decide) wr b1 hG kAsk_E _ _ _ _ adds0 (fun a es mk => a.code = 1 ∧ es = #[kE] ∧ mk = 1) (fun r hr w' hx => by
      obtain rfl : r = kR := by simpa using hr
      rw [kAsk_K, kAsk_V]
      exact kCh1 t mb w' (hG.tab.ext hx))).mono ?_
    rintro e w' ⟨a, es', mk', he, ⟨hc, rfl, rfl⟩, ⟨x', y', hx1, -, hG'⟩, hb⟩
    obtain ⟨rfl, rfl⟩ := hx1 hc
    exact ⟨a, N, he, hc, ⟨t, P, T, v, G, mb, hG', hl, h4, h5, h6⟩, Nat.le_refl _, Nat.le_trans hNw hb.size, .inr rfl, hb.mono (by have := hl.g; have := hl.m; rintro i (rfl | rfl) <;> omega)⟩
  · obtain ⟨t, P, T, v, G, mb, hG, hl, h4, h5, h6⟩ := hS
    refine (pDoR g t P T 1 mb 1 v 0 [kR] G #[kE] one64 0 0 0 (ba 2) 9 ⟨#[]⟩ kAsk (by decide) wr b2 hG kAsk_E _ _ _ _ kAdd1 (fun a es mk => a.code = 2 ∧ a.nanos = 10 ∧ es = #[kE] ∧ mk = 1) (fun r hr w' hx => by
      obtain rfl : r = kR := by simpa using hr
      rw [kAsk_K, kAsk_V]
      exact kCh2 t mb w' (hG.tab.ext hx))).mono ?_
    rintro e w' ⟨a, es', mk', he, ⟨hc, hn, rfl, rfl⟩, ⟨x', y', -, hx1, hG'⟩, hb⟩
    obtain ⟨rfl, rfl⟩ := hx1 (by rw [hc]; decide)
    exact ⟨a, N, he, ⟨hc, hn⟩, ⟨t, P, T, v, G, mb, hG', hl, h4, h5, h6⟩, Nat.le_refl _, Nat.le_trans hNw hb.size, .inr rfl, hb.mono (by have := hl.g; have := hl.m; rintro i (rfl | rfl) <;> omega)⟩
  · obtain ⟨t, P, T, v, G, mb, hG, hl, h4, h5, h6⟩ := hS
    refine (pDoTick g t P T 1 mb 1 v 0 [kR] G #[kE] one64 one64 10 0 (ba 3) 0 0 ⟨#[]⟩ 10 (by omega) (by omega) (by decide) wr hG).mono ?_
    rintro e w' ⟨a, he, hG', hb⟩
    exact ⟨a, N, he, trivial, ⟨t, P, T, v, G, mb, hG', hl, h4, h5, h6⟩, Nat.le_refl _, Nat.le_trans hNw hb.size, .inr rfl, hb.mono (by have := hl.t; rintro i rfl; omega)⟩
  · obtain ⟨t, P, T, v, G, mb, hG, hl, h4, h5, h6⟩ := hS
    refine (pDoR g t P T 1 mb 1 v 10 [kR] G #[kE] one64 one64 0 0 (ba 4) 9 ⟨#[]⟩ kAsk (by decide) wr b4 hG kAsk_E _ _ _ _ kAdd2 (fun a es mk => a.code = 1) (fun r hr w' hx => by
      obtain rfl : r = kR := by simpa using hr
      rw [kAsk_K, kAsk_V]
      exact kCh3 t mb w' (hG.tab.ext hx))).mono ?_
    rintro e w' ⟨a, es', mk', he, hc, -, hb⟩
    exact ⟨a, N, he, hc, trivial, Nat.le_refl _, Nat.le_trans hNw hb.size, .inr rfl, hb.mono (by have := hl.g; have := hl.m; rintro i (rfl | rfl) <;> omega)⟩

/-- twin.Run of known's operations -/
theorem pKRun (ob : Nat) (ba : Nat → Option Addr) (w : World) (hob : ob < w.heap.size) (h3 : ba 3 = none)
    (hby : ∀ W, But (fun i => w.heap.size ≤ i) w W → IsBytes W (ba 0) kText ∧ IsBytes W (ba 1) kAsk ∧ IsBytes W (ba 2) kAsk ∧ IsBytes W (ba 4) kAsk)
    (hop : ∀ k, k < 5 → w.cell? ⟨ob, k * 5, none⟩ = some (.int .u8 (kKd k)) ∧ w.cell? ⟨ob, k * 5 + 1, none⟩ = some (.int .i64 (kTk k)) ∧ w.cell? ⟨ob, k * 5 + 2, none⟩ = some (.slice (ba k) (kBn k) (kBn k)) ∧ w.cell? ⟨ob, k * 5 + 3, none⟩ = some (.string ⟨#[]⟩) ∧ w.cell? ⟨ob, k * 5 + 4, none⟩ = some (.int .u8 0)) :
    Calls Tryz.prog 10 #[.slice (some ⟨ob, 0, none⟩) 5 5] w fun e w' => ∃ v ans N, e = .returned v ∧ ans.length = 5 ∧ (∀ k, k < 5 → KGood k (ans.getD k ⟨0, 0, 0, 0, 0, 0, 0, false, 0⟩)) ∧ w'.ownsRow N 43 10 v 5 (ansRow ans) ∧ Ext w w' := by
  go_enter Tryz.func10, Tryz.ntmps10
  go_wp2_with fail
  refine (pGateNew w).mono ?_
  rintro e w1 ⟨g, t, mb, rfl, hg, hT, hgs, hts, hms, hgt, hgm, hx⟩
  have hA := pAll g ob 5 5 w.heap.size kKd kTk ba kBn kBn (KSt g w.heap.size) KGood (by omega) (by omega) w1
    (fun k hk => by obtain ⟨a, b, c, d, e⟩ := hop k hk; exact ⟨hx.reads a, hx.reads b, hx.reads c, hx.reads d, hx.reads e⟩) hob hx.size
    ⟨w1.heap.size, hx.size, Nat.le_refl _, t, mb, hg, hT, hgt, ⟨hgs, World.block_lt_of_cell? w1 _ hg.c0⟩, ⟨hts, World.block_lt_of_cell? w1 _ hT.c0⟩, ⟨hms, (Array.getElem?_eq_some_iff.1 hT.m).1⟩⟩
    (KSt.keep g w.heap.size)
    (fun k hk N wr hS hMN hNw hb => kStep g w.heap.size ba w1 (fun W hW => hby W ((But.of_ext hx).trans hW)) h3 k hk N wr hS hMN hNw hb)
  have hAH := Lib.hid hA
  have hxH := Lib.hid hx
  clear hA hop hby hg hT hx
  go_wp2_with fail
  refine hAH.out.mono ?_
  rintro e w2 ⟨v, ans, N, rfl, h1, h2, h4, hb⟩
  go_wp2
  go_ret
  exact ⟨v, ans, N, rfl, h1, h2, h4, Ext.ofBut ((But.of_ext (S := fun _ => False) hxH.out).fresh hb (fun i h => h))⟩

theorem lit_bytes (w : World) (n : Nat) (hn : n = w.heap.size) (C : Array Value) (t : TypeId) (fr : Nat × Nat) (l : List UInt8) (hC : C.toList = l.map (fun c => Value.int .u8 (c.toNat : Int))) : IsBytes (w.alloc (.cells C t fr)) (some ⟨n, 0, none⟩) l := by
  refine .inr ⟨_, 0, rfl, fun i hi => ?_⟩
  rw [Joins.cell_alloc_mark_at w C t fr n _ hn, Nat.zero_add, ← Array.getElem?_toList, hC, List.getElem?_map, List.getD_eq_getElem?_getD, List.getElem?_eq_getElem hi]
  rfl
def kBa (b : Nat) : Nat → Option Addr
  | 0 => some ⟨b, 0, none⟩
  | 1 => some ⟨b + 1, 0, none⟩
  | 2 => some ⟨b + 1 + 1, 0, none⟩
  | 3 => none
  | _ => some ⟨b + 1 + 1 + 1, 0, none⟩
def kTextA : Array Value := #[.int .u8 115, .int .u8 105, .int .u8 122, .int .u8 101, .int .u8 32, .int .u8 49, .int .u8 10, .int .u8 100, .int .u8 101, .int .u8 102, .int .u8 97, .int .u8 117, .int .u8 108, .int .u8 116, .int .u8 32, .int .u8 49, .int .u8 48, .int .u8 32, .int .u8 49, .int .u8 32, .int .u8 98, .int .u8 117, .int .u8 99, .int .u8 107, .int .u8 101, .int .u8 116]
def kAskA : Array Value := #[.int .u8 67, .int .u8 72, .int .u8 69, .int .u8 67, .int .u8 75, .int .u8 32, .int .u8 97, .int .u8 32, .int .u8 49]
def kOpsA (b : Nat) : Array Value := #[.int .u8 5, .int .i64 0, .slice (some ⟨b, 0, none⟩) 26 26, .string ⟨#[]⟩, .int .u8 0, .int .u8 2, .int .i64 0, .slice (some ⟨b + 1, 0, none⟩) 9 9, .string ⟨#[]⟩, .int .u8 0, .int .u8 2, .int .i64 0, .slice (some ⟨b + 1 + 1, 0, none⟩) 9 9, .string ⟨#[]⟩, .int .u8 0, .int .u8 1, .int .i64 10, .slice none 0 0, .string ⟨#[]⟩, .int .u8 0, .int .u8 2, .int .i64 0, .slice (some ⟨b + 1 + 1 + 1, 0, none⟩) 9 9, .string ⟨#[]⟩, .int .u8 0]
def kW3 (w : World) : World := (((w.alloc (.cells kTextA 5 (26, 27))).alloc (.cells kAskA 5 (9, 10))).alloc (.cells kAskA 5 (9, 10))).alloc (.cells kAskA 5 (9, 10))
def kW (w : World) : World := (kW3 w).alloc (.cells (kOpsA w.heap.size) 37)
theorem IsBytes.but {X : Nat → Prop} {w w' : World} {a : Option Addr} {l : List UInt8} (h : IsBytes w a l) (hb : But X w w') (hX : ∀ b, X b → w.heap.size ≤ b) : IsBytes w' a l :=
  h.ext (Ext.ofBut ((But.refl (fun _ => False) w).fresh hb hX))

/-- what Run tells known -/
theorem kRan (w : World) : Calls Tryz.prog 10 #[.slice (some ⟨w.heap.size + 1 + 1 + 1 + 1, 0, none⟩) 5 5] (kW w) fun e w' => ∃ v ans N, e = .returned v ∧ ans.length = 5 ∧ (∀ k, k < 5 → KGood k (ans.getD k ⟨0, 0, 0, 0, 0, 0, 0, false, 0⟩)) ∧ w'.ownsRow N 43 10 v 5 (ansRow ans) ∧ Ext w w' := by
  have x1 : Ext w (w.alloc (.cells kTextA 5 (26, 27))) := (Ext.refl w).alloc _
  have x2 : Ext (w.alloc (.cells kTextA 5 (26, 27))) (kW w) := ((((Ext.refl _).alloc _).alloc _).alloc _).alloc _
  have x3 : Ext ((w.alloc (.cells kTextA 5 (26, 27))).alloc (.cells kAskA 5 (9, 10))) (kW w) := (((Ext.refl _).alloc _).alloc _).alloc _
  have x4 : Ext (((w.alloc (.cells kTextA 5 (26, 27))).alloc (.cells kAskA 5 (9, 10))).alloc (.cells kAskA 5 (9, 10))) (kW w) := ((Ext.refl _).alloc _).alloc _
  have x5 : Ext (kW3 w) (kW w) := (Ext.refl _).alloc _
  have hsz : (kW w).heap.size = w.heap.size + 1 + 1 + 1 + 1 + 1 := by simp [kW, kW3]
  have t0 : IsBytes (kW w) (some ⟨w.heap.size, 0, none⟩) kText := (lit_bytes w w.heap.size rfl kTextA 5 (26, 27) kText (by rfl)).ext x2
  have t1 : IsBytes (kW w) (some ⟨w.heap.size + 1, 0, none⟩) kAsk := (lit_bytes _ (w.heap.size + 1) (by simp) kAskA 5 (9, 10) kAsk (by rfl)).ext x3
  have t2 : IsBytes (kW w) (some ⟨w.heap.size + 1 + 1, 0, none⟩) kAsk := (lit_bytes _ (w.heap.size + 1 + 1) (by simp) kAskA 5 (9, 10) kAsk (by rfl)).ext x4
  have t4 : IsBytes (kW w) (some ⟨w.heap.size + 1 + 1 + 1, 0, none⟩) kAsk := (lit_bytes _ (w.heap.size + 1 + 1 + 1) (by simp) kAskA 5 (9, 10) kAsk (by rfl)).ext x5
  have hc : ∀ j, (kW w).cell? ⟨w.heap.size + 1 + 1 + 1 + 1, j, none⟩ = (kOpsA w.heap.size)[j]? := fun j => Joins.cell_alloc_mark_at (kW3 w) (kOpsA w.heap.size) 37 (0, 0) _ j (by simp [kW3])
  refine (pKRun (w.heap.size + 1 + 1 + 1 + 1) (kBa w.heap.size) (kW w) (by omega) rfl (fun W hW => ⟨t0.but hW (fun b h => h), t1.but hW (fun b h => h), t2.but hW (fun b h => h), t4.but hW (fun b h => h)⟩) ?_).mono ?_
  · intro k hk
    obtain rfl | rfl | rfl | rfl | rfl : k = 0 ∨ k = 1 ∨ k = 2 ∨ k = 3 ∨ k = 4 := by omega
    all_goals exact ⟨hc _, hc _, hc _, hc _, hc _⟩
  · rintro e w' ⟨v, ans, N, h1, h2, h3, h4, h5⟩
    exact ⟨v, ans, N, h1, h2, h3, h4, (x1.trans x2).trans h5⟩

set_option maxRecDepth 100000 in
set_option maxHeartbeats 3200000 in
theorem pKnown (w : World) : Calls Tryz.prog 4 #[] w fun e w' => e = .returned (.bool true) ∧ Ext w w' := by
  have hcv : ∀ (w : World) (C : Array Value) (n c g : Nat), g = w.heap.size → (convert 22 22 (.slice (some ⟨g, 0, none⟩) n c)).run Tryz.prog (w.alloc (.cells C 5)) = .ok (.slice (some ⟨g, 0, none⟩) n c) (w.alloc (.cells C 5 (C.size, C.size + 1))) :=
    fun w C n c g hg => Joins.run_convert_bytes_const_at w 22 5 C n c g hg (by kernel_rfl) (by kernel_rfl)
  go_enter Tryz.func4, Tryz.ntmps4
  have hR := kRan w
  simp only [kW, kW3, kTextA, kAskA, kOpsA] at hR
  have hRH := Lib.hid hR
  clear hR
  go_wp2_with fail
  refine hRH.out.mono ?_
  rintro e w1 ⟨v, ans, N, rfl, h1, h2, h4, hx⟩
  obtain ⟨G, cp, rfl⟩ := Joins.ownsRow_form h4 (by omega)
  have hcell : ∀ i j, i < 5 → j < 10 → w1.cell? ⟨G, i * 10 + j, none⟩ = (ansCells (ans.getD i ⟨0, 0, 0, 0, 0, 0, 0, false, 0⟩))[j]? := fun i j hi hj => by
    rw [World.ownsRow.cellAt h4 _ (by omega), ansRow_get ans i j (by omega) hj]
  have c0 : w1.cell? ⟨G, 0, none⟩ = some (.int .u8 6) := by
    have := hcell 0 0 (by omega) (by omega)
    rw [show ansCells (ans.getD 0 ⟨0, 0, 0, 0, 0, 0, 0, false, 0⟩) = _ from rfl] at this
    have hg : (ans.getD 0 ⟨0, 0, 0, 0, 0, 0, 0, false, 0⟩).code = 6 := h2 0 (by omega)
    rw [← hg]; exact this
  have c1 : w1.cell? ⟨G, 10, none⟩ = some (.int .u8 1) := by
    have := hcell 1 0 (by omega) (by omega)
    have hg : (ans.getD 1 ⟨0, 0, 0, 0, 0, 0, 0, false, 0⟩).code = 1 := h2 1 (by omega)
    rw [← hg]; exact this
  have c2 : w1.cell? ⟨G, 20, none⟩ = some (.int .u8 2) := by
    have := hcell 2 0 (by omega) (by omega)
    have hg : (ans.getD 2 ⟨0, 0, 0, 0, 0, 0, 0, false, 0⟩).code = 2 := (h2 2 (by omega)).1
    rw [← hg]; exact this
  have c3 : w1.cell? ⟨G, 26, none⟩ = some (.int .u64 10) := by
    have := hcell 2 6 (by omega) (by omega)
    have hg : (ans.getD 2 ⟨0, 0, 0, 0, 0, 0, 0, false, 0⟩).nanos = 10 := (h2 2 (by omega)).2
    rw [← hg]; exact this
  have c4 : w1.cell? ⟨G, 40, none⟩ = some (.int .u8 1) := by
    have := hcell 4 0 (by omega) (by omega)
    have hg : (ans.getD 4 ⟨0, 0, 0, 0, 0, 0, 0, false, 0⟩).code = 1 := h2 4 (by omega)
    rw [← hg]; exact this
  have hxH := Lib.hid hx
  clear hcell h1 h2 h4 hx hcv hRH
  go_wp2
  go_ret
  exact ⟨rfl, hxH.out⟩

end Go.Proofs.YtdgcgpapcbjfhaaGreatDoor
