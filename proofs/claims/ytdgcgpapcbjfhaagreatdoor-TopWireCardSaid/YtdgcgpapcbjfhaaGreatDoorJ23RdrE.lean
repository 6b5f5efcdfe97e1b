/- A text of rules, by the program: its end; what was given up is taken up. -/
import Derived.Test.YtdgcgpapcbjfhaaGreatDoorJ22Rdr
import Derived.Test.YtdgcgpapcbjfhaaGreatDoorJ11Rg
import Derived.Deep.AppendLies
import Derived.Deep.RegionHeld3
import Derived.Deep.Cut
import Derived.Deep.RegionLaw
import Derived.Defers
import Derived.Recover
set_option linter.unusedVariables false
set_option linter.unusedSimpArgs false

/- A text of rules, by the program: the line of a rule. -/
namespace Go.Proofs.YtdgcgpapcbjfhaaGreatDoor
open Go.RowKit

/-- the reader in memory -/
structure Rdr (w : World) (base B mB : Nat) (p : Pl) (a : Option Addr) (cp : Nat) (es : Array MapEntry) (ck : Nat) : Prop where
  c0 : w.cell? ⟨B, 0, none⟩ = some (.int .i64 p.most)
  c1 : w.cell? ⟨B, 1, none⟩ = some (.slice a p.rules.length cp)
  c2 : w.cell? ⟨B, 2, none⟩ = some (.map (some mB))
  f0 : w.frozen? ⟨B, 0, none⟩ = false
  f1 : w.frozen? ⟨B, 1, none⟩ = false
  own : w.ownsRow base 47 4 (.slice a p.rules.length cp) p.rules.length (rlCells p.rules)
  nil : p.rules = [] → Value.slice a p.rules.length cp = .slice none 0 0
  mp : w.heap[mB]? = some (.map es ck)
  keys : es.toList.map (·.key) = (p.rules.map (·.pre)).map (fun k => Value.string (strOf k))
  vals : ∀ e ∈ es.toList, e.val = .agg #[]
  lt : B < base
  mlt : mB < base
  ne : mB ≠ B
  bs : base ≤ w.heap.size
theorem Rdr.ext {w w' : World} {base B mB : Nat} {p : Pl} {a : Option Addr} {cp : Nat} {es : Array MapEntry} {ck : Nat} (h : Rdr w base B mB p a cp es ck) (hx : Ext w w') : Rdr w' base B mB p a cp es ck :=
  ⟨hx.reads h.c0, hx.reads h.c1, hx.reads h.c2, hx.free h.c0 h.f0, hx.free h.c1 h.f1, owns_ext h.own hx, h.nil, (Below.block hx mB (Nat.lt_of_lt_of_le h.mlt h.bs)).trans h.mp, h.keys, h.vals, h.lt, h.mlt, h.ne, Nat.le_trans h.bs hx.size⟩

/-- how the line of a rule ends -/
def RuleEnd (w : World) (base B mB : Nat) (q : Pl × Int × Int) (l : List Wd) (e : Ending) (w' : World) : Prop :=
  (q.2.1 = 0 ∧ e = .returned (.tuple #[]) ∧ (∃ a cp es ck, Rdr w' base B mB q.1 a cp es ck) ∧ But (fun x => x = B ∨ x = mB ∨ base ≤ x) w w') ∨
  (q.2.1 ≠ 0 ∧ e = fltE q.2.1 ((l.getD q.2.2.toNat noWd).ln : Int) ((l.getD q.2.2.toNat noWd).col : Int) ∧ Ext w w')
theorem RuleEnd.no {w w' : World} {base B mB : Nat} {q : Pl × Int × Int} {l : List Wd} {e : Int} (i : Nat) {ln col : Int} (h1 : q.2.1 = e) (h2 : q.2.2 = (i : Int)) (he : e ≠ 0) (hl : ((l.getD i noWd).ln : Int) = ln) (hc : ((l.getD i noWd).col : Int) = col) (hx : Ext w w') :
    RuleEnd w base B mB q l (.panicked [{ v := .iface 89 (.agg #[.int .u16 e, .int .i64 ln, .int .i64 col]), recovered := false }]) w' :=
  .inr ⟨by rw [h1]; exact he, by rw [h1, h2, Int.toNat_natCast, hl, hc]; rfl, hx⟩

theorem zeroUnit (w : World) : (zeroValue 125).run Tryz.prog w = .ok (.agg #[]) w := by kernel_rfl

theorem hasP_mem {rs : List Rl} {t : List UInt8} : hasP rs t = true ↔ t ∈ rs.map (·.pre) := by
  unfold hasP
  rw [List.any_eq_true]
  constructor
  · rintro ⟨r, hr, h⟩
    exact List.mem_map.2 ⟨r, hr, by simpa using h⟩
  · intro h
    obtain ⟨r, hr, e⟩ := List.mem_map.1 h
    exact ⟨r, hr, by simpa using e⟩

/-- is a prefix met already? -/
theorem Rdr.met {w : World} {base B mB : Nat} {p : Pl} {a : Option Addr} {cp : Nat} {es : Array MapEntry} {ck : Nat} (h : Rdr w base B mB p a cp es ck) (t : List UInt8) :
    (Instr.lookup 92 (.map (some mB)) (.string (strOf t)) true).run Tryz.prog w = .ok (.tuple #[.agg #[], .bool (hasP p.rules t)]) w := by
  obtain ⟨h1, h2⟩ := findT t es.toList (p.rules.map (·.pre)) 0 h.keys
  cases c : hasP p.rules t with
  | true =>
    obtain ⟨j, e, he, _, _, hf⟩ := h2 (hasP_mem.1 c)
    rw [h.vals e he] at hf
    exact lookY Tryz.underlying92 Tryz.underlying9 (fun b w => ckStr Tryz.underlying9 b _ w) h.mp hf true
  | false =>
    have hn : t ∉ p.rules.map (·.pre) := fun hm => by rw [hasP_mem.2 hm] at c; cases c
    exact lookN Tryz.underlying92 Tryz.underlying9 (fun b w => ckStr Tryz.underlying9 b _ w) h.mp (h1 hn) zeroUnit true
theorem Rdr.note {w : World} {base B mB : Nat} {p : Pl} {a : Option Addr} {cp : Nat} {es : Array MapEntry} {ck : Nat} (h : Rdr w base B mB p a cp es ck) {t : List UInt8} (c : hasP p.rules t = false) :
    (Instr.mapUpdate 92 (.map (some mB)) (.string (strOf t)) (.agg #[])).run Tryz.prog w = .ok () (putMap w mB (es.push { key := .string (strOf t), val := .agg #[], born := ck }) (ck + 1)) := by
  have hn : t ∉ p.rules.map (·.pre) := fun hm => by rw [hasP_mem.2 hm] at c; cases c
  exact insN _ Tryz.underlying92 Tryz.underlying9 (fun b w => ckStr Tryz.underlying9 b _ w) h.mp ((findT t es.toList (p.rules.map (·.pre)) 0 h.keys).1 hn)

end Go.Proofs.YtdgcgpapcbjfhaaGreatDoor

/- A text of rules, by the program: the line of a rule, walked. -/
namespace Go.Proofs.YtdgcgpapcbjfhaaGreatDoor
open Go.RowKit

/-- the reader behind a rule more -/
theorem rdr_grown {W6 W7 w8 : World} {base B mB n g cp8 : Nat} {p : Pl} {r : Rl} {a : Option Addr} {cp : Nat} {es : Array MapEntry} {ck : Nat} (h : Rdr W6 base B mB p a cp es ck)
    (hb7 : But (fun x => x = mB) W6 W7) (hm7 : W7.heap[mB]? = some (.map (es.push { key := .string (strOf r.pre), val := .agg #[], born := ck }) (ck + 1))) (hb8 : But (fun x => base ≤ x) W7 w8)
    (hown : w8.ownsRow base 47 4 (.slice (some ⟨g, 0, none⟩) (n + 1) cp8) (n + 1) (rlCells p.rules ++ [.string (strOf r.pre), .int .u64 r.ev, .int .u64 r.bu, .int .u8 (r.kd : Int)])) (hn : p.rules.length = n) (hlt : g < w8.heap.size) :
    Rdr (w8.setCell ⟨B, 1, none⟩ (.slice (some ⟨g, 0, none⟩) (n + 1) cp8)) base B mB ⟨p.most, p.rules ++ [r]⟩ (some ⟨g, 0, none⟩) cp8 (es.push { key := .string (strOf r.pre), val := .agg #[], born := ck }) (ck + 1) := by
  have hBm : ¬ B = mB := fun e => h.ne e.symm
  have hBb : ¬ base ≤ B := by have := h.lt; omega
  have hmb : ¬ base ≤ mB := by have := h.mlt; omega
  have hb9 : But (fun x => x = B) w8 (w8.setCell ⟨B, 1, none⟩ (.slice (some ⟨g, 0, none⟩) (n + 1) cp8)) := (But.refl (fun x => x = B) w8).setCell rfl _
  have c1 := hb8.cell (hb7.cell h.c1 hBm) hBb
  have hgb : base ≤ g := (hown.lt g rfl).1
  have hmlt : mB < w8.heap.size := by have h1 := h.mlt; have h2 := h.bs; have h3 := hb7.size; have h4 := hb8.size; omega
  have hmlt7 : mB < W7.heap.size := by have h1 := h.mlt; have h2 := h.bs; have h3 := hb7.size; omega
  have hl : (p.rules ++ [r]).length = n + 1 := by simp [hn]
  refine ⟨?_, ?_, ?_, ?_, ?_, ?_, ?_, ?_, ?_, ?_, h.lt, h.mlt, h.ne, ?_⟩
  · rw [World.cell?_setCell_other (h := addr_ne' (by decide))]; exact hb8.cell (hb7.cell h.c0 hBm) hBb
  · simp only [hl]; exact World.cell?_setCell_same _ _ _ c1
  · rw [World.cell?_setCell_other (h := addr_ne' (by decide))]; exact hb8.cell (hb7.cell h.c2 hBm) hBb
  · rw [World.frozen?_setCell]; exact hb8.free (hb7.cell h.c0 hBm) hBb (hb7.free h.c0 hBm h.f0)
  · rw [World.frozen?_setCell]; exact hb8.free (hb7.cell h.c1 hBm) hBb (hb7.free h.c1 hBm h.f1)
  · simp only [hl, rlCells_app, rlCells]
    exact hb9.owns hown fun k hk e => by simp [Value.ownBlock] at hk; omega
  · intro e; simp at e
  · exact (hb9.block mB hmlt h.ne).trans ((hb8.block mB hmlt7 hmb).trans hm7)
  · simp [h.keys]
  · intro e he
    simp at he
    rcases he with he | rfl
    · exact h.vals e (by simpa using he)
    · rfl
  · have h2 := h.bs; have h3 := hb7.size; have h4 := hb8.size; have h5 := hb9.size; omega

set_option maxRecDepth 100000 in
set_option maxHeartbeats 6400000 in
theorem pRdRule (p : Pl) (l : List Wd) (gr cr base B mB : Nat) (a : Option Addr) (cp : Nat) (es : Array MapEntry) (ck : Nat) (hne : 0 < l.length) (hcr : l.length ≤ cr) (hlen : l.length ≤ 1000000) (hl : ∀ i, (l.getD i noWd).txt.length ≤ 1000000) (hok : okP p) (h0 : (l.getD 0 noWd).txt ≠ sSize) (w : World) (hc : WdsAt w gr l) (hR : Rdr w base B mB p a cp es ck) :
    Calls Tryz.prog 36 #[.pointer (some ⟨B, 0, none⟩), .slice (some ⟨gr, 0, none⟩) l.length cr] w (RuleEnd w base B mB (cOne p (txts l)) l) := by
  obtain ⟨i0, hi, hz0, hz1, hz2⟩ := info_parts infoSt
  obtain ⟨j0, hj, hy0, hy1, hy2⟩ := info_parts infoRl
  have htl : (txts l).length = l.length := by unfold txts; simp
  have h0' : (txts l).getD 0 [] ≠ sSize := by rw [txts_get]; exact h0
  have q1 := Lib.hid (cRule1 (p := p) h0')
  have q2 := Lib.hid (cRule2 (p := p) h0')
  have q3 := Lib.hid (cRule3 (p := p) h0')
  have q4 := Lib.hid (cRule4 (p := p) h0')
  have hat : Hid (0 ≤ (rpar (txts l)).2.2 ∧ (rpar (txts l)).2.2.toNat < l.length) := Lib.hid (by have := rpar_at (txts l) (by rw [htl]; exact hne); rw [htl] at this; exact this)
  have hpre : Hid ((rpar (txts l)).1.pre ≠ [] → 2 ≤ l.length) := Lib.hid fun h => by
    rw [← htl]
    revert h
    unfold rpar
    split
    · omega
    · split
      · omega
      · intro h; exact absurd rfl h
  have hcH := Lib.hid hc
  have hRH := Lib.hid hR
  have hbs := hR.bs
  have hmlt := hR.mlt
  have hBlt := hR.lt
  have hPu := fun g cp W (hn : l.length ≤ cp) (h : StrsAt W g (txts l)) => pRule (txts l) g cp (by rw [htl]; exact hne) (by rw [htl]; exact hn) (fun i => by rw [txts_get]; exact hl i) W h
  rw [htl] at hPu
  clear hc hR h0 h0' htl
  go_enter Tryz.func36, Tryz.ntmps36
  go_wp2
  go_loopw [4, 15] (fun wv i wr => ∃ j : Nat, j ≤ l.length ∧ i = .int .i64 j ∧ Hid (wr.ownsRow w.heap.size 9 1 wv j (strs (txts (l.take j)))) ∧ Ext w wr) (fun _ i _ => l.length - (intOf i).toNat)
  case atStart => exact ⟨0, Nat.zero_le _, rfl, Lib.hid (World.ownsRow_nil _ _ _ _), Ext.refl _⟩
  case round =>
    obtain ⟨j, hj1, rfl, hO, hxq⟩ := hrel
    obtain ⟨oa, oc, rfl⟩ := own_slice hO.out
    by_cases hjl : j < l.length
    · obtain ⟨ct0, ct1, ct2⟩ := hcH.out.ext hxq j hjl
      have hown := hO.out
      have hsn : Hid (strs (txts (l.take (j + 1))) = strs (txts (l.take j)) ++ [.string (strOf (l.getD j noWd).txt)]) := Lib.hid (by rw [txts_snoc _ _ hjl]; unfold strs; simp)
      generalize strOf (l.getD j noWd).txt = ST at *
      generalize ((l.getD j noWd).ln : Int) = A1 at *
      generalize ((l.getD j noWd).col : Int) = A2 at *
      have hsz := hxq.size
      go_wp2_with (at_builtin; refine wpList_append_own _ rfl _ _ 51 rfl _ 9 i0 (.string ⟨#[]⟩) 1 16 Tryz.underlying51 hi hz0 hz1 hz2 rfl (by decide) _ _ _ rfl ((hown.alloc _).alloc _) ⟨wr.heap.size + 1, 0, none⟩ 1 1 [.string ST] rfl rfl ?c1 ?c2 ?c3 ?c4 ?c5 ?_)
      case c1 =>
        have hcn := cell_one_new (wr.alloc (.cells #[.string ST, .int .i64 A1, .int .i64 A2] 97)) (.string ST) 9
        rw [World.size_alloc] at hcn
        exact hcn
      case c2 => simp [Value.oneCell']
      case c3 => unfold maxLen; omega
      try (case c4 => omega)
      case c5 => simp; omega
      intro v' w3 hown3 hgrow3 _
      have hext3 := ext_grown (hxq.alloc _) (hown.alloc _) hgrow3
      have hO3 : Hid (w3.ownsRow w.heap.size 9 1 v' (j + 1) (strs (txts (l.take (j + 1))))) := Lib.hid (by rw [hsn.out]; exact hown3)
      clear hown hown3 hgrow3 hO
      go_wp2
      go_roundw
      case rel => exact ⟨j + 1, by omega, by go_num, hO3, hext3⟩
      case measure => (simp [intOf]) <;> omega
    · obtain rfl : j = l.length := by omega
      have hO := hO.out
      rw [List.take_length] at hO
      obtain ⟨gw, cw, ev, hn1, hn2, hcs2⟩ := own_cells hO hne
      injection ev with ev1 ev2 ev3
      rw [← ev3] at hn1 hn2
      clear ev3
      subst ev1
      have htl : (txts l).length = l.length := by unfold txts; simp
      have hSt : StrsAt wr gw (txts l) := fun i hi => by rw [hcs2 i (by omega)]; rw [← strs_get _ _ hi]
      have hP := hPu gw oc wr hn1 hSt
      have hWd := Lib.hid (hcH.out.ext hxq)
      have hRd := Lib.hid (hRH.out.ext hxq)
      have hA : Hid ((rpar (txts l)).2.1 ≠ 0 → ∀ w', Ext w w' → RuleEnd w base B mB (cOne p (txts l)) l (.panicked [{ v := .iface 89 (.agg #[.int .u16 (rpar (txts l)).2.1, .int .i64 ((l.getD (rpar (txts l)).2.2.toNat noWd).ln : Int), .int .i64 ((l.getD (rpar (txts l)).2.2.toNat noWd).col : Int)]), recovered := false }]) w') :=
        Lib.hid fun h w' hx => RuleEnd.no (rpar (txts l)).2.2.toNat (by rw [q1.out h]) (by rw [q1.out h]; exact (Int.toNat_of_nonneg hat.out.1).symm) h rfl rfl hx
      have hB : Hid ((rpar (txts l)).2.1 = 0 → hasP p.rules (rpar (txts l)).1.pre = true → ∀ i, (i = if (rpar (txts l)).1.pre = [] then 0 else 1) → ∀ w', Ext w w' → RuleEnd w base B mB (cOne p (txts l)) l (.panicked [{ v := .iface 89 (.agg #[.int .u16 28, .int .i64 ((l.getD i noWd).ln : Int), .int .i64 ((l.getD i noWd).col : Int)]), recovered := false }]) w') :=
        Lib.hid fun h h2 i hi w' hx => RuleEnd.no i (by rw [q2.out h h2]) (by rw [q2.out h h2, hi]; split <;> rfl) (by decide) rfl rfl hx
      have hC : Hid ((rpar (txts l)).2.1 = 0 → hasP p.rules (rpar (txts l)).1.pre = false → 1000 ≤ p.rules.length → ∀ w', Ext w w' → RuleEnd w base B mB (cOne p (txts l)) l (.panicked [{ v := .iface 89 (.agg #[.int .u16 32, .int .i64 ((l.getD 0 noWd).ln : Int), .int .i64 ((l.getD 0 noWd).col : Int)]), recovered := false }]) w') :=
        Lib.hid fun h h2 h3 w' hx => RuleEnd.no 0 (by rw [q3.out h h2 h3]) (by rw [q3.out h h2 h3]; rfl) (by decide) rfl rfl hx
      have hD : Hid ((rpar (txts l)).2.1 = 0 → hasP p.rules (rpar (txts l)).1.pre = false → ¬ 1000 ≤ p.rules.length → ∀ w', (∃ a cp es ck, Rdr w' base B mB ⟨p.most, p.rules ++ [(rpar (txts l)).1]⟩ a cp es ck) → But (fun x => x = B ∨ x = mB ∨ base ≤ x) w w' → RuleEnd w base B mB (cOne p (txts l)) l (.returned (.tuple #[])) w') :=
        Lib.hid fun h h2 h3 w' hr hx => .inl ⟨by rw [q4.out h h2 h3], rfl, by rw [q4.out h h2 h3]; exact hr, hx⟩
      clear q1 q2 q3 q4 hO hcs2 hSt hcH hRH hPu htl hjl hj1 hi hz0 hz1 hz2 ev2 hlen hl
      generalize RuleEnd w base B mB (cOne p (txts l)) l = SE at *
      generalize txts l = TS at *
      generalize hRP : rpar TS = RP at *
      clear hRP
      obtain ⟨⟨pre, ev, bu, kd⟩, E, A⟩ := RP
      obtain ⟨q, hq⟩ : ∃ q : Nat, A = q := ⟨A.toNat, (Int.toNat_of_nonneg hat.out.1).symm⟩
      subst hq
      have hql : q < l.length := by have := hat.out.2; simpa using this
      clear hat
      simp only [rlV, Int.toNat_natCast] at hP hA hB hC hD hpre
      go_wp2_with fail
      refine hP.mono ?_
      rintro e w1 ⟨rfl, hx1⟩
      clear hP
      have hx01 := hxq.trans hx1
      have hW1 := Lib.hid (hWd.out.ext hx1)
      have hR1 := Lib.hid (hRd.out.ext hx1)
      clear hWd hRd hx1 hxq
      generalize hPS : strOf pre = PS at *
      by_cases hE : E = 0
      · subst hE
        obtain ⟨k0, k1, k2⟩ := hW1.out q hql
        have hgs : gr < w1.heap.size := World.block_lt_of_cell? w1 _ k0
        have hM := fun s l c => pMustY s 0 l c
        go_wp2_with fail
        refine (hM _ _ _ _).mono ?_
        rintro e w2 ⟨rfl, hx2⟩
        have hx12 := hx2.past
        have hx02 := hx01.trans hx12
        have hW2 := Lib.hid (hW1.out.ext hx12)
        have hR2 := Lib.hid (hR1.out.ext hx12)
        obtain ⟨OB, hOB⟩ : ∃ OB, w1.heap.size = OB := ⟨_, rfl⟩
        have o0 : w2.cell? ⟨OB, 0, none⟩ = some (.string PS) := by subst hOB; exact hx2.reads (by go_simp)
        have o1 : w2.cell? ⟨OB, 1, none⟩ = some (.int .u64 ev) := by subst hOB; exact hx2.reads (by go_simp)
        have o2 : w2.cell? ⟨OB, 2, none⟩ = some (.int .u64 bu) := by subst hOB; exact hx2.reads (by go_simp)
        have o3 : w2.cell? ⟨OB, 3, none⟩ = some (.int .u8 (kd : Int)) := by subst hOB; exact hx2.reads (by go_simp)
        have hOw : w.heap.size ≤ OB := by have := hx01.size; omega
        rw [hOB]
        have hm0 : ∀ w', Ext w2 w' → w'.cell? ⟨B, 2, none⟩ = some (.map (some mB)) := fun w' hz => hz.reads hR2.out.c2
        have hm1 : ∀ w', Ext w2 w' → w'.cell? ⟨OB, 0, none⟩ = some (.string PS) := fun w' hz => hz.reads o0
        have hm2 : ∀ w', Ext w2 w' → (Instr.lookup 92 (.map (some mB)) (.string PS) true).run Tryz.prog w' = .ok (.tuple #[.agg #[], .bool (hasP p.rules pre)]) w' := fun w' hz => by rw [← hPS]; exact (hR2.out.ext hz).met pre
        clear hx2 hx12 hW1 hR1 hOB k0 k1 k2 hgs hM hA hx01
        generalize hH : hasP p.rules pre = H at *
        go_wp2
        go_cut [10, 11] from 39 (fun _ s11 wx => s11 = .bool H ∧ Ext w2 wx)
        case first =>
          go_region_held3 (Ext w2) (repeat (first | exact Ext.refl _ | assumption | apply Ext.drew | apply Ext.alloc | (refine Ext.setCell ?_ (by simp <;> omega) _) | refine Ext.trans ?_ (by assumption))) (fail)
          all_goals
            go_wp2_with fail
            go_meet
            exact ⟨rfl, by repeat (first | exact Ext.refl _ | assumption | apply Ext.drew | apply Ext.alloc | (refine Ext.setCell ?_ (by simp <;> omega) _) | refine Ext.trans ?_ (by assumption))⟩
        case rest =>
          obtain ⟨rfl, hx3⟩ := hcut
          obtain ⟨W3, hW3e⟩ : ∃ W3, wc = W3 := ⟨_, rfl⟩
          rw [hW3e] at hx3 ⊢
          clear hW3e hm0 hm1 hm2
          have hW3 := Lib.hid (hW2.out.ext hx3)
          have hR3 := Lib.hid (hR2.out.ext hx3)
          have o0 := hx3.reads o0
          have o1 := hx3.reads o1
          have o2 := hx3.reads o2
          have o3 := hx3.reads o3
          have hx03 := hx02.trans hx3
          clear hx3 hW2 hR2 hx02
          obtain ⟨k0, k1, k2⟩ := hW3.out 0 hne
          rw [Nat.zero_mul] at k0 k1 k2
          have hgs : gr < W3.heap.size := World.block_lt_of_cell? W3 _ k0
          have hos : OB < W3.heap.size := World.block_lt_of_cell? W3 _ o0
          have hpe : (PS.toList == []) = decide (pre = []) := by rw [← hPS]; exact strOf_eq pre []
          by_cases hp : pre = []
          · have hB0 : Hid (H = true → ∀ w', Ext w w' → SE (.panicked [{ v := .iface 89 (.agg #[.int .u16 28, .int .i64 ((l.getD 0 noWd).ln : Int), .int .i64 ((l.getD 0 noWd).col : Int)]), recovered := false }]) w') := Lib.hid fun h => hB.out (by simp) h 0 (by rw [if_pos hp])
            rw [decide_eq_true hp] at hpe
            clear hp hB hpre
            generalize hS0 : strOf (l.getD 0 noWd).txt = S0 at *
            generalize hA0 : ((l.getD 0 noWd).ln : Int) = A0 at *
            generalize hC0 : ((l.getD 0 noWd).col : Int) = C0 at *
            have eS0 := Lib.hid (And.intro hS0 (And.intro hA0 hC0))
            clear hS0 hA0 hC0
            cases H
            · have hM := pMustY S0 28 A0 C0
              go_wp2_with fail
              refine (hM _).mono ?_
              rintro e w4 ⟨rfl, hx4⟩
              have hx4' := hx4.past
              have hx04 := hx03.trans hx4'
              have hW4 := Lib.hid (hW3.out.ext hx4')
              have hR4 := Lib.hid (hR3.out.ext hx4')
              have o0 := hx4'.reads o0
              have o1 := hx4'.reads o1
              have o2 := hx4'.reads o2
              have o3 := hx4'.reads o3
              have k0 := hx4'.reads k0
              have k1 := hx4'.reads k1
              have k2 := hx4'.reads k2
              have c1 := hR4.out.c1
              clear hx4 hx4' hx03 hW3 hR3 hgs hos hM
              have hcp : p.rules.length ≤ 1000 := hok.2.1
              generalize hLN : p.rules.length = n at *
              by_cases hln : 1000 ≤ n
              · have hR := Lib.hid (hC.out (by simp) (by first | exact hH | rfl | simp) hln)
                have hM := pMustN S0 32 A0 C0
                unfold fltE flt at hM
                have hln' : decide ((n : Int) < 1000) = false := by simp; omega
                go_wp2
                go_still_tail 10, (by kernel_rfl)
                go_wp2_with fail
                refine (hM _).mono ?_
                rintro e w5 ⟨rfl, hx5⟩
                exact ⟨rfl, hR.out _ (hx04.drew.trans hx5)⟩
              · have hR := Lib.hid (hD.out (by simp) (by first | exact hH | rfl | simp) hln)
                have hM := pMustY S0 32 A0 C0
                have hln' : decide ((n : Int) < 1000) = true := by simp; omega
                go_wp2
                go_still_tail 10, (by kernel_rfl)
                go_wp2_with fail
                refine (hM _).mono ?_
                rintro e w5 ⟨rfl, hx5⟩
                have hx45 := (Ext.refl w4).drew.trans hx5
                have hx05 := hx04.trans hx45
                have hR5 := Lib.hid (hR4.out.ext hx45)
                have o0 := hx45.reads o0
                have o1 := hx45.reads o1
                have o2 := hx45.reads o2
                have o3 := hx45.reads o3
                clear hx5 hx45 hx04 hW4 hR4 k0 k1 k2 c1 hM hC hD
                have c2 := hR5.out.c2
                go_wp2
                go_still_tail 7, (by kernel_rfl)
                change wpList _ _ _ _ _ w5.drew
                have hx06 : Ext w w5.drew := hx05.drew
                have hR6 := Lib.hid (hR5.out.ext ((Ext.refl w5).drew))
                have O0 : w5.drew.cell? ⟨OB, 0, none⟩ = some (.string PS) := o0
                have O1 : w5.drew.cell? ⟨OB, 1, none⟩ = some (.int .u64 ev) := o1
                have O2 : w5.drew.cell? ⟨OB, 2, none⟩ = some (.int .u64 bu) := o2
                have O3 : w5.drew.cell? ⟨OB, 3, none⟩ = some (.int .u8 (kd : Int)) := o3
                generalize w5.drew = W6 at *
                clear o0 o1 o2 o3 c2 hx05 hR5
                have hnote := hR6.out.note hH
                rw [hPS] at hnote
                go_wp2
                have hb7 := putMap_but W6 mB (es.push { key := .string PS, val := .agg #[], born := ck }) (ck + 1)
                have hm7 := putMap_at hR6.out.mp (es.push { key := .string PS, val := .agg #[], born := ck }) (ck + 1)
                clear hnote
                obtain ⟨W7, hW7⟩ : ∃ W7, putMap W6 mB (es.push { key := .string PS, val := .agg #[], born := ck }) (ck + 1) = W7 := ⟨_, rfl⟩
                rw [hW7] at hb7 hm7 ⊢
                clear hW7
                have hOm : ¬ OB = mB := by omega
                have hBm : ¬ B = mB := fun e => hR6.out.ne e.symm
                have O0 := hb7.cell O0 hOm
                have O1 := hb7.cell O1 hOm
                have O2 := hb7.cell O2 hOm
                have O3 := hb7.cell O3 hOm
                have C0 := hb7.cell hR6.out.c0 hBm
                have C1 := hb7.cell hR6.out.c1 hBm
                have C2 := hb7.cell hR6.out.c2 hBm
                have F0 := hb7.free hR6.out.c0 hBm hR6.out.f0
                have F1 := hb7.free hR6.out.c1 hBm hR6.out.f1
                have ho7 := Lib.hid (hb7.owns hR6.out.own fun k hk e => by have := (hR6.out.own.lt k hk).1; omega)
                have hx6s := hx06.size
                have hs7 := hb7.size
                have hO7 : OB < W7.heap.size := World.block_lt_of_cell? W7 _ O0
                have hB7 : B < W7.heap.size := World.block_lt_of_cell? W7 _ C0
                rw [hLN] at C1 ho7
                have hnews : Hid (∀ j u, [Value.string PS, .int .u64 ev, .int .u64 bu, .int .u8 (kd : Int)][j]? = some u → (W7.alloc (.cells #[.string PS, .int .u64 ev, .int .u64 bu, .int .u8 (kd : Int)] 47)).cell? ((⟨W7.heap.size, 0, none⟩ : Addr).add j) = some u) := Lib.hid (World.news_of_block (MapKept.heap_alloc W7 _).1)
                go_wp2
                go_region_law ((refine step_append_lies _ rfl _ _ 28 rfl base 47 j0 (.agg #[.string ⟨#[]⟩, .int .u64 0, .int .u64 0, .int .u8 0]) 4 40 Tryz.underlying28 hj hy0 hy1 hy2 rfl (by decide) _ n (rlCells p.rules) rfl (ho7.out.alloc _) ⟨W7.heap.size, 0, none⟩ 1 1 [Value.string PS, .int .u64 ev, .int .u64 bu, .int .u8 (kd : Int)] rfl rfl hnews.out (by simp [Value.oneCell']) (by decide) (by unfold maxLen; omega) (by omega) (by simp; omega) _ rfl ?_; intro g cp8 w8 hown8 hgrow8 hat8 hlt8; have hb8 : But (fun x => base ≤ x) W7 w8 := (((But.refl (fun x => base ≤ x) W7).alloc _).drew).grown hgrow8 (fun k hk => (ho7.out.lt k hk).1); have C18 := hb8.cell C1 (show ¬ base ≤ B by omega); have F18 := hb8.free C1 (show ¬ base ≤ B by omega) F1; have hown8H := Lib.hid hown8; clear hown8 hgrow8))
                all_goals
                  go_wp2
                  go_end0
                  subst hPS
                  refine hR.out _ ⟨some ⟨g, 0, none⟩, cp8, _, _, rdr_grown hR6.out hb7 hm7 hb8 hown8H.out hLN hlt8⟩ ?_
                  exact (((But.of_ext hx06).trans (hb7.mono fun k h => .inr (.inl h))).trans (hb8.mono fun k h => .inr (.inr h))).setCell (.inl rfl) _
            · have hR := Lib.hid (hB0.out rfl)
              have hM := pMustN S0 28 A0 C0
              unfold fltE flt at hM
              go_wp2_with fail
              refine (hM _).mono ?_
              rintro e w4 ⟨rfl, hx4⟩
              exact ⟨rfl, hR.out _ (hx03.trans hx4.past)⟩
          · have hB1 : Hid (H = true → ∀ w', Ext w w' → SE (.panicked [{ v := .iface 89 (.agg #[.int .u16 28, .int .i64 ((l.getD 1 noWd).ln : Int), .int .i64 ((l.getD 1 noWd).col : Int)]), recovered := false }]) w') := Lib.hid fun h => hB.out (by simp) h 1 (by rw [if_neg hp])
            have hl2 := hpre.out hp
            rw [decide_eq_false hp] at hpe
            obtain ⟨m0, m1, m2⟩ := hW3.out 1 (by omega)
            rw [Nat.one_mul] at m0 m1 m2
            clear hp hB hpre
            generalize hS0 : strOf (l.getD 0 noWd).txt = S0 at *
            generalize hA0 : ((l.getD 0 noWd).ln : Int) = A0 at *
            generalize hC0 : ((l.getD 0 noWd).col : Int) = C0 at *
            have eS0 := Lib.hid (And.intro hS0 (And.intro hA0 hC0))
            clear hS0 hA0 hC0
            generalize strOf (l.getD 1 noWd).txt = S1 at *
            generalize ((l.getD 1 noWd).ln : Int) = A1 at *
            generalize ((l.getD 1 noWd).col : Int) = C1 at *
            cases H
            · have hM := pMustY S1 28 A1 C1
              go_wp2_with fail
              refine (hM _).mono ?_
              rintro e w4 ⟨rfl, hx4⟩
              have hx4' := hx4.past
              have hx04 := hx03.trans hx4'
              have hW4 := Lib.hid (hW3.out.ext hx4')
              have hR4 := Lib.hid (hR3.out.ext hx4')
              have o0 := hx4'.reads o0
              have o1 := hx4'.reads o1
              have o2 := hx4'.reads o2
              have o3 := hx4'.reads o3
              have k0 := hx4'.reads k0
              have k1 := hx4'.reads k1
              have k2 := hx4'.reads k2
              have c1 := hR4.out.c1
              clear hx4 hx4' hx03 hW3 hR3 hgs hos hM
              have hcp : p.rules.length ≤ 1000 := hok.2.1
              generalize hLN : p.rules.length = n at *
              by_cases hln : 1000 ≤ n
              · have hR := Lib.hid (hC.out (by simp) (by first | exact hH | rfl | simp) hln)
                have hM := pMustN S0 32 A0 C0
                unfold fltE flt at hM
                have hln' : decide ((n : Int) < 1000) = false := by simp; omega
                go_wp2
                go_still_tail 10, (by kernel_rfl)
                go_wp2_with fail
                refine (hM _).mono ?_
                rintro e w5 ⟨rfl, hx5⟩
                exact ⟨rfl, hR.out _ (hx04.drew.trans hx5)⟩
              · have hR := Lib.hid (hD.out (by simp) (by first | exact hH | rfl | simp) hln)
                have hM := pMustY S0 32 A0 C0
                have hln' : decide ((n : Int) < 1000) = true := by simp; omega
                go_wp2
                go_still_tail 10, (by kernel_rfl)
                go_wp2_with fail
                refine (hM _).mono ?_
                rintro e w5 ⟨rfl, hx5⟩
                have hx45 := (Ext.refl w4).drew.trans hx5
                have hx05 := hx04.trans hx45
                have hR5 := Lib.hid (hR4.out.ext hx45)
                have o0 := hx45.reads o0
                have o1 := hx45.reads o1
                have o2 := hx45.reads o2
                have o3 := hx45.reads o3
                clear hx5 hx45 hx04 hW4 hR4 k0 k1 k2 c1 hM hC hD
                have c2 := hR5.out.c2
                go_wp2
                go_still_tail 7, (by kernel_rfl)
                change wpList _ _ _ _ _ w5.drew
                have hx06 : Ext w w5.drew := hx05.drew
                have hR6 := Lib.hid (hR5.out.ext ((Ext.refl w5).drew))
                have O0 : w5.drew.cell? ⟨OB, 0, none⟩ = some (.string PS) := o0
                have O1 : w5.drew.cell? ⟨OB, 1, none⟩ = some (.int .u64 ev) := o1
                have O2 : w5.drew.cell? ⟨OB, 2, none⟩ = some (.int .u64 bu) := o2
                have O3 : w5.drew.cell? ⟨OB, 3, none⟩ = some (.int .u8 (kd : Int)) := o3
                generalize w5.drew = W6 at *
                clear o0 o1 o2 o3 c2 hx05 hR5
                have hnote := hR6.out.note hH
                rw [hPS] at hnote
                go_wp2
                have hb7 := putMap_but W6 mB (es.push { key := .string PS, val := .agg #[], born := ck }) (ck + 1)
                have hm7 := putMap_at hR6.out.mp (es.push { key := .string PS, val := .agg #[], born := ck }) (ck + 1)
                clear hnote
                obtain ⟨W7, hW7⟩ : ∃ W7, putMap W6 mB (es.push { key := .string PS, val := .agg #[], born := ck }) (ck + 1) = W7 := ⟨_, rfl⟩
                rw [hW7] at hb7 hm7 ⊢
                clear hW7
                have hOm : ¬ OB = mB := by omega
                have hBm : ¬ B = mB := fun e => hR6.out.ne e.symm
                have O0 := hb7.cell O0 hOm
                have O1 := hb7.cell O1 hOm
                have O2 := hb7.cell O2 hOm
                have O3 := hb7.cell O3 hOm
                have C0 := hb7.cell hR6.out.c0 hBm
                have C1 := hb7.cell hR6.out.c1 hBm
                have C2 := hb7.cell hR6.out.c2 hBm
                have F0 := hb7.free hR6.out.c0 hBm hR6.out.f0
                have F1 := hb7.free hR6.out.c1 hBm hR6.out.f1
                have ho7 := Lib.hid (hb7.owns hR6.out.own fun k hk e => by have := (hR6.out.own.lt k hk).1; omega)
                have hx6s := hx06.size
                have hs7 := hb7.size
                have hO7 : OB < W7.heap.size := World.block_lt_of_cell? W7 _ O0
                have hB7 : B < W7.heap.size := World.block_lt_of_cell? W7 _ C0
                rw [hLN] at C1 ho7
                have hnews : Hid (∀ j u, [Value.string PS, .int .u64 ev, .int .u64 bu, .int .u8 (kd : Int)][j]? = some u → (W7.alloc (.cells #[.string PS, .int .u64 ev, .int .u64 bu, .int .u8 (kd : Int)] 47)).cell? ((⟨W7.heap.size, 0, none⟩ : Addr).add j) = some u) := Lib.hid (World.news_of_block (MapKept.heap_alloc W7 _).1)
                go_wp2
                go_region_law ((refine step_append_lies _ rfl _ _ 28 rfl base 47 j0 (.agg #[.string ⟨#[]⟩, .int .u64 0, .int .u64 0, .int .u8 0]) 4 40 Tryz.underlying28 hj hy0 hy1 hy2 rfl (by decide) _ n (rlCells p.rules) rfl (ho7.out.alloc _) ⟨W7.heap.size, 0, none⟩ 1 1 [Value.string PS, .int .u64 ev, .int .u64 bu, .int .u8 (kd : Int)] rfl rfl hnews.out (by simp [Value.oneCell']) (by decide) (by unfold maxLen; omega) (by omega) (by simp; omega) _ rfl ?_; intro g cp8 w8 hown8 hgrow8 hat8 hlt8; have hb8 : But (fun x => base ≤ x) W7 w8 := (((But.refl (fun x => base ≤ x) W7).alloc _).drew).grown hgrow8 (fun k hk => (ho7.out.lt k hk).1); have C18 := hb8.cell C1 (show ¬ base ≤ B by omega); have F18 := hb8.free C1 (show ¬ base ≤ B by omega) F1; have hown8H := Lib.hid hown8; clear hown8 hgrow8))
                all_goals
                  go_wp2
                  go_end0
                  subst hPS
                  refine hR.out _ ⟨some ⟨g, 0, none⟩, cp8, _, _, rdr_grown hR6.out hb7 hm7 hb8 hown8H.out hLN hlt8⟩ ?_
                  exact (((But.of_ext hx06).trans (hb7.mono fun k h => .inr (.inl h))).trans (hb8.mono fun k h => .inr (.inr h))).setCell (.inl rfl) _
            · have hR := Lib.hid (hB1.out rfl)
              have hM := pMustN S1 28 A1 C1
              unfold fltE flt at hM
              go_wp2_with fail
              refine (hM _).mono ?_
              rintro e w4 ⟨rfl, hx4⟩
              exact ⟨rfl, hR.out _ (hx03.trans hx4.past)⟩
      · have hE' : (E == 0) = false := beq_eq_false_iff_ne.2 hE
        have hR := Lib.hid (hA.out hE)
        obtain ⟨k0, k1, k2⟩ := hW1.out q hql
        have hgs : gr < w1.heap.size := World.block_lt_of_cell? w1 _ k0
        have hM := pMustN (strOf (l.getD q noWd).txt) E ((l.getD q noWd).ln : Int) ((l.getD q noWd).col : Int)
        unfold fltE flt at hM
        clear hA hB hC hD hpre hW1 hR1
        generalize strOf (l.getD q noWd).txt = S at *
        generalize ((l.getD q noWd).ln : Int) = Ln at *
        generalize ((l.getD q noWd).col : Int) = Cl at *
        generalize l.length = N at *
        go_wp2_with fail
        refine (hM _).mono ?_
        rintro e w2 ⟨rfl, hx2⟩
        exact ⟨rfl, hR.out _ (hx01.trans hx2.past)⟩

end Go.Proofs.YtdgcgpapcbjfhaaGreatDoor

/- A text of rules, by the program: its end; what was given up is taken up. -/
namespace Go.Proofs.YtdgcgpapcbjfhaaGreatDoor
open Go.RowKit

theorem strOf_nil : strOf [] = ⟨#[]⟩ := rfl

/-- how the end of a text ends -/
def endE (p : Pl) : Ending := if p.most = 0 then fltE 30 0 0 else if hasP p.rules [] then .returned (.tuple #[]) else fltE 31 0 0

set_option maxRecDepth 100000 in
set_option maxHeartbeats 1600000 in
theorem pRdEnd (p : Pl) (base B mB : Nat) (a : Option Addr) (cp : Nat) (es : Array MapEntry) (ck : Nat) (hm : p.most ≤ 1000000) (w : World) (hR : Rdr w base B mB p a cp es ck) :
    Calls Tryz.prog 37 #[.pointer (some ⟨B, 0, none⟩)] w fun e w' => e = endE p ∧ Ext w w' := by
  have c0 := hR.c0
  have hlk : Hid (∀ W, Ext w W → (Instr.lookup 92 (.map (some mB)) (.string ⟨#[]⟩) true).run Tryz.prog W = .ok (.tuple #[.agg #[], .bool (hasP p.rules [])]) W) := Lib.hid fun W hx => by
    have := (hR.ext hx).met []
    rwa [strOf_nil] at this
  have hc2 : Hid (∀ W, Ext w W → W.cell? ⟨B, 2, none⟩ = some (.map (some mB))) := Lib.hid fun W hx => (hR.ext hx).c2
  have hE := Lib.hid (show endE p = if p.most = 0 then fltE 30 0 0 else if hasP p.rules [] then .returned (.tuple #[]) else fltE 31 0 0 from rfl)
  clear hR
  generalize endE p = EE at *
  generalize hasP p.rules [] = H at *
  generalize p.most = M at *
  by_cases hM0 : M = 0
  · have hM := pMustN ⟨#[]⟩ 30 0 0
    have hR : Hid (_ = EE) := Lib.hid (hE.out.trans (if_pos hM0)).symm
    unfold fltE flt at hM hR
    subst hM0
    rw [show ((0 : Nat) : Int) = 0 from rfl] at c0
    clear hlk hc2 hE
    go_enter Tryz.func37, Tryz.ntmps37
    go_wp2_with fail
    refine (hM _).mono ?_
    rintro e w1 ⟨rfl, hx⟩
    exact ⟨rfl, hR.out, hx⟩
  · have hMy := pMustY ⟨#[]⟩ 30 0 0
    have hpos : 0 < M := Nat.pos_of_ne_zero hM0
    have hE2 := hE.out
    rw [if_neg hM0] at hE2
    cases H
    · have hM := pMustN ⟨#[]⟩ 31 0 0
      have hR : Hid (_ = EE) := Lib.hid (hE2.trans (if_neg (by decide))).symm
      unfold fltE flt at hM hR
      clear hE hE2 hM0
      go_enter Tryz.func37, Tryz.ntmps37
      go_wp2_with fail
      refine (hMy _).mono ?_
      rintro e w1 ⟨rfl, hx⟩
      have k1 := hlk.out w1 hx
      have k2 := hc2.out w1 hx
      go_wp2_with fail
      refine (hM _).mono ?_
      rintro e w2 ⟨rfl, hx2⟩
      exact ⟨rfl, hR.out, hx.trans hx2.past⟩
    · have hM := pMustY ⟨#[]⟩ 31 0 0
      have hR : Hid (_ = EE) := Lib.hid (hE2.trans (if_pos rfl)).symm
      clear hE hE2 hM0
      go_enter Tryz.func37, Tryz.ntmps37
      go_wp2_with fail
      refine (hMy _).mono ?_
      rintro e w1 ⟨rfl, hx⟩
      have k1 := hlk.out w1 hx
      have k2 := hc2.out w1 hx
      go_wp2_with fail
      refine (hM _).mono ?_
      rintro e w2 ⟨rfl, hx2⟩
      go_wp2
      go_end0
      exact ⟨hR.out, hx.trans hx2.past⟩

set_option maxRecDepth 100000 in
set_option maxHeartbeats 1600000 in
/-- the deferred function, where nothing was given up -/
theorem catch_idle (p q r : Addr) (w : World) :
    CallsD Tryz.prog 34 #[.pointer (some p), .pointer (some q), .pointer (some r)] .returning w fun e u' w' => e = .returned (.tuple #[]) ∧ u' = .returning ∧ w' = w := by
  refine callsD_of_wpS Tryz.func34 rfl fun c₀ cs hu => ?_
  simp only [Tryz.ntmps34, List.size_toArray, List.length_cons, List.length_nil, Nat.reduceAdd, Nat.reduceSub, Array.replicate_succ, Array.replicate_zero, List.push_toArray, List.append_toArray, List.nil_append, List.cons_append]
  apply wpS_seq
  apply wpS_region
  simp [wpOpsS, go_sem, recoverD, hu, Exit.thenS]
  refine wpS_of_wp ?_
  go_wp2_with fail
  cases c₀
  simp_all [bodyPostS, results, Tryz.results34]

theorem assertFault (v : Value) (w : World) : (Instr.typeAssert (.iface 89 v) 20 89 true).run Tryz.prog w = .ok (.tuple #[v, .bool true]) w := by kernel_rfl

set_option maxRecDepth 100000 in
set_option maxHeartbeats 1600000 in
/-- the deferred function, where a word was given up at -/
theorem catch_fault (P Q R : Nat) (hPQ : ¬ P = Q) (hPR : ¬ P = R) (hQR : ¬ Q = R) (e ln col : Int) (m e0 l0 k0 : Int) (v0 : Value) (w : World)
    (p0 : w.cell? ⟨P, 0, none⟩ = some (.int .i64 m)) (p1 : w.cell? ⟨P, 1, none⟩ = some v0) (fp0 : w.frozen? ⟨P, 0, none⟩ = false) (fp1 : w.frozen? ⟨P, 1, none⟩ = false)
    (q0 : w.cell? ⟨Q, 0, none⟩ = some (.int .u16 e0)) (fq0 : w.frozen? ⟨Q, 0, none⟩ = false)
    (r0 : w.cell? ⟨R, 0, none⟩ = some (.int .i64 l0)) (r1 : w.cell? ⟨R, 1, none⟩ = some (.int .i64 k0)) (fr0 : w.frozen? ⟨R, 0, none⟩ = false) (fr1 : w.frozen? ⟨R, 1, none⟩ = false) :
    CallsD Tryz.prog 34 #[.pointer (some ⟨P, 0, none⟩), .pointer (some ⟨Q, 0, none⟩), .pointer (some ⟨R, 0, none⟩)] (.panicking ({ v := flt e ln col, recovered := false } :: [])) w fun x u' w' =>
      x = .returned (.tuple #[]) ∧ u' = .panicking ({ v := flt e ln col, recovered := true } :: []) ∧ w'.cell? ⟨P, 0, none⟩ = some (.int .i64 0) ∧ w'.cell? ⟨P, 1, none⟩ = some (.slice none 0 0) ∧ w'.cell? ⟨Q, 0, none⟩ = some (.int .u16 e) ∧
        w'.cell? ⟨R, 0, none⟩ = some (.int .i64 ln) ∧ w'.cell? ⟨R, 1, none⟩ = some (.int .i64 col) ∧ But (fun x => x = P ∨ x = Q ∨ x = R) w w' := by
  unfold flt
  have hta := assertFault
  have hP : P < w.heap.size := World.block_lt_of_cell? w _ p0
  have hQ : Q < w.heap.size := World.block_lt_of_cell? w _ q0
  have hR : R < w.heap.size := World.block_lt_of_cell? w _ r0
  refine callsD_of_wpS Tryz.func34 rfl fun c₀ cs hu => ?_
  simp only [Tryz.ntmps34, List.size_toArray, List.length_cons, List.length_nil, Nat.reduceAdd, Nat.reduceSub, Array.replicate_succ, Array.replicate_zero, List.push_toArray, List.append_toArray, List.nil_append, List.cons_append]
  apply wpS_seq
  apply wpS_region
  simp [wpOpsS, go_sem, recoverD, hu, Exit.thenS]
  refine wpS_of_wp ?_
  go_wp2_with fail
  go_region
  all_goals
    refine ⟨rfl, _, rfl, .tuple #[], by simp [results, Tryz.results34, go_sem], rfl, rfl, by go_simp, by go_simp, by go_simp, by go_simp, by go_simp, ?_⟩
    exact (((((((But.refl (fun x => x = P ∨ x = Q ∨ x = R) w).setCell (.inl rfl) _).setCell (.inl rfl) _).setCell (.inr (.inl rfl)) _).setCell (.inr (.inr rfl)) _).setCell (.inr (.inr rfl)) _).alloc _).drew

end Go.Proofs.YtdgcgpapcbjfhaaGreatDoor
