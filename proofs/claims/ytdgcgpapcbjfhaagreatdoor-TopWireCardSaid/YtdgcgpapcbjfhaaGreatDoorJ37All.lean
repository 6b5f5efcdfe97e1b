/- What a gate tells of operations. -/
import Derived.Test.YtdgcgpapcbjfhaaGreatDoorJ36GateP
import Derived.Test.YtdgcgpapcbjfhaaGreatDoorJ10LKey
import Derived.Test.YtdgcgpapcbjfhaaGreatDoorJ32FindW
import Derived.Defers
import Derived.StillTailTactics
import Derived.Test.YtdgcgpapcbjfhaaGreatDoorJ03DigR
set_option linter.unusedVariables false
set_option linter.unusedSimpArgs false

/- A gate is asked. -/
namespace Go.Proofs.YtdgcgpapcbjfhaaGreatDoor
open Go.RowKit

@[local go_sem] theorem run_store_complexK {P : Program} (w : World) (a : Addr) (m : Mode) (k : FloatKind) (x y : Nat) : (store a (.complex k x y) m).run P w = stored P w a (.complex k x y) m := run_store P w a _ m rfl

/-- the tally's two sums -/
structure Adds (x y a1 b1 a2 b2 : Nat) : Prop where
  h1 : ∀ w, (binOp BinOp.add 108 (.complex .f64 x y) (.complex .f64 4607182418800017408 0)).run Tryz.prog w = .ok (.complex .f64 a1 b1) w
  h2 : ∀ w, (binOp BinOp.add 108 (.complex .f64 x y) (.complex .f64 0 4607182418800017408)).run Tryz.prog w = .ok (.complex .f64 a2 b2) w

set_option maxHeartbeats 1600000 in
theorem tally_d (R GB g : Nat) (code : Int) (w : World) (hr : w.cell? ⟨R, 0, none⟩ = some (.int .u8 code)) (hg : w.cell? ⟨GB, 0, none⟩ = some (.pointer (some ⟨g, 0, none⟩))) (x y : Nat) (h3 : w.cell? ⟨g, 3, none⟩ = some (.complex .f64 x y)) (f3 : w.frozen? ⟨g, 3, none⟩ = false)
    (a1 b1 a2 b2 : Nat) (hA : Adds x y a1 b1 a2 b2) :
    CallsD Tryz.prog 92 #[.pointer (some ⟨R, 0, none⟩), .pointer (some ⟨GB, 0, none⟩)] .returning w fun e u' w' => u' = .returning ∧ (∃ v, e = .returned v) ∧ w' = w.setCell ⟨g, 3, none⟩ (if code = 1 then .complex .f64 a1 b1 else .complex .f64 a2 b2) := by
  obtain ⟨h1, h2⟩ := hA
  by_cases hc : code = 1
  · subst hc
    rw [if_pos rfl]
    go_enter_d Tryz.func92, Tryz.ntmps92
    go_wp2
    go_end0
    exact ⟨⟨_, rfl⟩, rfl⟩
  · rw [if_neg hc]
    go_enter_d Tryz.func92, Tryz.ntmps92
    go_wp2
    go_end0
    exact ⟨⟨_, rfl⟩, rfl⟩

theorem setC_but (w : World) (p : Addr) (v : Value) : But (fun k => k = p.block) w (w.setCell p v) := (But.refl (fun k => k = p.block) w).setCell rfl v

theorem door_tally {tmps : Array Value} {Rp : Ending → World → Prop} {w : World} {R GB g : Nat} {a : Ans} {x y a1 b1 a2 b2 : Nat} (h4 : tmps[4]?.getD undef = .pointer (some ⟨R, 0, none⟩)) (hr : AnsAt w R a)
    (hg : w.cell? ⟨GB, 0, none⟩ = some (.pointer (some ⟨g, 0, none⟩))) (h3 : w.cell? ⟨g, 3, none⟩ = some (.complex .f64 x y)) (f3 : w.frozen? ⟨g, 3, none⟩ = false) (hA : Adds x y a1 b1 a2 b2) (hRg : R ≠ g)
    (hend : Rp (.returned (ansV a)) (w.setCell ⟨g, 3, none⟩ (if a.code = 1 then .complex .f64 a1 b1 else .complex .f64 a2 b2))) :
    Leaves Tryz.prog Tryz.f68 tmps Rp [{ target := .fn (.func 92) #[.pointer (some ⟨R, 0, none⟩), .pointer (some ⟨GB, 0, none⟩)], args := #[] }] .returning w := by
  refine leaves_cons (f := 92) (args := #[.pointer (some ⟨R, 0, none⟩), .pointer (some ⟨GB, 0, none⟩)]) (by simp) (by simp [go_sem]) ?_
  refine (tally_d R GB g a.code w hr.1 hg x y h3 f3 a1 b1 a2 b2 hA).mono ?_
  rintro e u' w' ⟨rfl, ⟨v, rfl⟩, rfl⟩
  exact ⟨_, ans_check h4 (hr.but (setC_but w ⟨g, 3, none⟩ _) hRg), hend⟩

theorem GateAt.tally {w : World} {g t : Nat} {p tr : Option Addr} {x y : Nat} (h : GateAt w g t p tr x y) (x' y' : Nat) : GateAt (w.setCell ⟨g, 3, none⟩ (.complex .f64 x' y')) g t p tr x' y' := by
  obtain ⟨a, b, c, d, e, f, i, j⟩ := h
  exact ⟨by go_simp, by go_simp, by go_simp, by go_simp, by go_simp, by go_simp, by go_simp, by go_simp⟩

/-- the table's map may turn -/
theorem RulesGate.butm {w w' : World} {g t P T : Nat} {v : Value} {m : Nat} {ck : Int} {rs : List Rl} {G : GT} {mb : Nat} {es es' : Array MapEntry} {mk mk' tx ty : Nat} (h : RulesGate w g t P T v m ck rs G mb es mk tx ty) (hb : But (fun k => k = mb) w w') (hT : TabAt w' t m ck mb es' mk') : RulesGate w' g t P T v m ck rs G mb es' mk' tx ty := by
  have hm := h.tab.m
  refine ⟨h.gate.but hb (fun e => cells_no_map h.gate.c0 (e ▸ hm)), hT, hb.cell h.p0 (fun e => cells_no_map h.p0 (e ▸ hm)), hb.cell h.p1 (fun e => cells_no_map h.p1 (e ▸ hm)), ?_, ?_, h.dflt, h.apart⟩
  · refine h.rules.but hb ?_
    intro x hx e
    subst e
    by_cases hr : rs = []
    · rw [h.rules.1 hr] at hx; simp [Value.ownBlock] at hx
    · obtain ⟨a, cp, hv, hf⟩ := h.rules.form
      obtain ⟨g', rfl, _⟩ := hf hr
      subst hv
      simp [Value.ownBlock] at hx
      subst hx
      have := (RulesAt.cells h.rules (i := 0) (Nat.pos_of_ne_zero fun e => hr (List.eq_nil_of_length_eq_zero e))).1
      exact cells_no_map this hm
  · refine h.tree.but hb ?_ ?_ ?_
    · intro b hs e
      exact cells_no_map (h.tree.node b hs).c0 (e ▸ hm)
    · intro b hs e
      exact h.apart b hs e.symm
    · intro b hs y hy e
      obtain ⟨r, hr, hbx⟩ := h.tree.rul b hs y hy
      exact cells_no_map hbx.1 (e ▸ hm)
/-- the gate's tally may turn -/
theorem RulesGate.tally {w : World} {g t P T : Nat} {v : Value} {m : Nat} {ck : Int} {rs : List Rl} {G : GT} {mb : Nat} {es : Array MapEntry} {mk tx ty : Nat} (h : RulesGate w g t P T v m ck rs G mb es mk tx ty) (x y : Nat) : RulesGate (w.setCell ⟨g, 3, none⟩ (.complex .f64 x y)) g t P T v m ck rs G mb es mk x y := by
  have hb := setC_but w ⟨g, 3, none⟩ (.complex .f64 x y)
  have h0 := h.gate.c0
  have hgt : t ≠ g := fun e => by have h1 := h.tab.c0; rw [e, h0] at h1; cases h1
  have hgP : P ≠ g := fun e => by have h1 := h.p0; rw [e, h0] at h1; cases h1
  have hy : ∀ s, (Value.pointer (some ⟨t, 0, none⟩)) ≠ .string s := fun s e => by cases e
  exact ⟨h.gate.tally x y, h.tab.but hb hgt (fun e => cells_no_map h0 (e ▸ h.tab.m)), hb.cell h.p0 hgP, hb.cell h.p1 hgP, h.rules.but1 hb h0 hy, h.tree.but1 hb h0 hy, h.dflt, h.apart⟩

theorem aK_right {l : List UInt8} (h : aE l = 0) : kRight (aK l) = true := by
  have h0 := h
  unfold aE at h
  cases hc : cuts l with
  | nil => rw [hc] at h; cases h
  | cons v t =>
    cases t with
    | nil => rw [hc] at h; cases h
    | cons k t =>
      cases t with
      | nil => rw [hc] at h; cases h
      | cons c t =>
        cases t with
        | cons d t => rw [hc] at h; cases h
        | nil =>
          have e : aK l = k := by unfold aK; rw [hc]; show (if aE l = 0 then k else []) = k; rw [if_pos h0]
          rw [hc] at h
          have h' : (if v = CHK then (if kRight k then dE c else 12) else 13) = (0 : Int) := h
          rw [e]
          by_cases hv : v = CHK
          · rw [if_pos hv] at h'
            by_cases hk : kRight k = true
            · exact hk
            · rw [if_neg hk] at h'; cases h'
          · rw [if_neg hv] at h'; cases h'
theorem aV_U (l : List UInt8) : U (aV l) := by
  unfold aV
  split
  · split
    · exact dV_U _
    · exact ⟨by omega, by omega⟩
  · exact ⟨by omega, by omega⟩

set_option maxRecDepth 100000 in
set_option maxHeartbeats 3200000 in
theorem pCheckBad (g : Nat) (kd tick to : Int) (ba : Option Addr) (bc : Nat) (key : ByteArray) (l : List UInt8) (hl : l.length ≤ 1000000) (w : World) (hb : IsBytes w ba l) (hE : aE l ≠ 0) :
    Calls Tryz.prog 68 #[.pointer (some ⟨g, 0, none⟩), opV kd tick (.slice ba l.length bc) key to] w fun e w' => ∃ a, e = .returned (ansV a) ∧ a.code = 5 ∧ Ext w w' := by
  have hAs := fun W (hx : Ext w W) => pAsk ba bc l hl W (hb.ext hx)
  obtain ⟨E, hEe⟩ : ∃ E, aE l = E := ⟨_, rfl⟩
  rw [hEe] at hE hAs
  clear hEe hb
  have hmf : ∀ (fn : Fn) (first cap : Array Value) (w : World), (Instr.makeFunc fn first cap).run Tryz.prog w = .ok (.func fn first cap) w := fun _ _ _ _ => rfl
  unfold opV
  go_enter_defers Tryz.func68, Tryz.ntmps68
  obtain ⟨B, hB⟩ : ∃ B, w.heap.size = B := ⟨_, rfl⟩
  obtain ⟨W, hW⟩ : ∃ W, ((w.alloc (.cells #[.pointer (some ⟨g, 0, none⟩)] 63)).alloc (.cells #[.int .u8 kd, .int .i64 tick, .slice ba l.length bc, .string key, .int .u8 to] 37)).alloc (.cells #[.int .u8 0, .int .u16 0, .int .u64 0, .int .u64 0, .int .u64 0, .int .u64 0, .int .u64 0, .bool false, .int .i64 0, .slice none 0 0] 43) = W := ⟨_, rfl⟩
  have hx0 : Ext w W := by rw [← hW]; exact (((Ext.refl w).alloc _).alloc _).alloc _
  have hrs : Hid (ZeroAns W (B + 1 + 1)) := Lib.hid (by subst hW hB; exact ⟨⟨by go_simp, by go_simp, by go_simp, by go_simp, by go_simp, by go_simp, by go_simp, by go_simp, by go_simp, by go_simp⟩, by go_simp, by go_simp, by go_simp, by go_simp, by go_simp, by go_simp, by go_simp, by go_simp, by go_simp, by go_simp⟩)
  have k2 : W.cell? ⟨B + 1, 2, none⟩ = some (.slice ba l.length bc) := by subst hW hB; go_simp
  have hBw := Lib.hid hB
  go_wp2_with fail
  refine (hAs W hx0).mono ?_
  rintro e W1 ⟨kk, rfl, -, hx1⟩
  have hz := hrs.out.but (But.of_ext hx1) (Nat.not_le.2 (World.block_lt_of_cell? W _ hrs.out.1.1))
  have hxw := Lib.hid (hx0.trans hx1)
  have hS := Lib.hid (ans_store W1 (B + 1 + 1) hz ⟨5, E, 0, 0, 0, 0, 0, false, 0⟩)
  obtain ⟨⟨a0, a1, a2, a3, a4, a5, a6, a7, a8, a9⟩, b0, b1, b2, b3, b4, b5, b6, b7, b8, b9⟩ := hz
  clear hB hW hx0 hx1 hrs k2 hAs
  go_wp2
  obtain ⟨h1, h2⟩ := hS.out _ rfl
  exact ⟨_, ans_check rfl h2, _, rfl, rfl, (((But.of_ext (S := fun _ => False) hxw.out)).fresh h1 (by rintro i rfl; have := hBw.out; omega)).ext (Ext.refl _) (fun _ h => h.elim)⟩

set_option maxRecDepth 100000 in
set_option maxHeartbeats 3200000 in
theorem pCheckNone (g t : Nat) (tr : Option Addr) (x y : Nat) (kd tick to : Int) (ba : Option Addr) (bc : Nat) (key : ByteArray) (l : List UInt8) (hl : l.length ≤ 1000000) (w : World) (hb : IsBytes w ba l) (hg : GateAt w g t none tr x y) (hE : aE l = 0) (a1 b1 a2 b2 : Nat) (hA : Adds x y a1 b1 a2 b2) :
    Calls Tryz.prog 68 #[.pointer (some ⟨g, 0, none⟩), opV kd tick (.slice ba l.length bc) key to] w fun e w' => ∃ a, e = .returned (ansV a) ∧ a.code = 4 ∧ GateAt w' g t none tr a2 b2 ∧ But (fun k => k = g) w w' := by
  have hAs := fun W (hx : Ext w W) => pAsk ba bc l hl W (hb.ext hx)
  rw [hE] at hAs
  clear hb hE
  have hmf : ∀ (fn : Fn) (first cap : Array Value) (w : World), (Instr.makeFunc fn first cap).run Tryz.prog w = .ok (.func fn first cap) w := fun _ _ _ _ => rfl
  have hgl : g < w.heap.size := World.block_lt_of_cell? w _ hg.c0
  unfold opV
  go_enter_defers Tryz.func68, Tryz.ntmps68
  obtain ⟨B, hB⟩ : ∃ B, w.heap.size = B := ⟨_, rfl⟩
  obtain ⟨W, hW⟩ : ∃ W, ((w.alloc (.cells #[.pointer (some ⟨g, 0, none⟩)] 63)).alloc (.cells #[.int .u8 kd, .int .i64 tick, .slice ba l.length bc, .string key, .int .u8 to] 37)).alloc (.cells #[.int .u8 0, .int .u16 0, .int .u64 0, .int .u64 0, .int .u64 0, .int .u64 0, .int .u64 0, .bool false, .int .i64 0, .slice none 0 0] 43) = W := ⟨_, rfl⟩
  have hx0 : Ext w W := by rw [← hW]; exact (((Ext.refl w).alloc _).alloc _).alloc _
  have hrs : Hid (ZeroAns W (B + 1 + 1)) := Lib.hid (by subst hW hB; exact ⟨⟨by go_simp, by go_simp, by go_simp, by go_simp, by go_simp, by go_simp, by go_simp, by go_simp, by go_simp, by go_simp⟩, by go_simp, by go_simp, by go_simp, by go_simp, by go_simp, by go_simp, by go_simp, by go_simp, by go_simp, by go_simp⟩)
  have k2 : W.cell? ⟨B + 1, 2, none⟩ = some (.slice ba l.length bc) := by subst hW hB; go_simp
  have k0 : W.cell? ⟨B, 0, none⟩ = some (.pointer (some ⟨g, 0, none⟩)) := by subst hW hB; go_simp
  have hBw := Lib.hid hB
  have hgB : Hid (B + 1 + 1 ≠ g) := Lib.hid (by omega)
  have hBr : B ≠ B + 1 + 1 := by omega
  go_wp2_with fail
  refine (hAs W hx0).mono ?_
  rintro e W1 ⟨kk, rfl, -, hx1⟩
  have hz := hrs.out.but (But.of_ext hx1) (Nat.not_le.2 (World.block_lt_of_cell? W _ hrs.out.1.1))
  have hxw := Lib.hid (hx0.trans hx1)
  have hS := Lib.hid (ans_store W1 (B + 1 + 1) hz ⟨4, 0, 0, 0, 0, 0, 0, false, 0⟩)
  obtain ⟨⟨a0, a1', a2', a3, a4, a5, a6, a7, a8, a9⟩, b0, b1', b2', b3, b4, b5, b6, b7, b8, b9⟩ := hz
  have j0 := hx1.reads k0
  have hgg := hg.ext (hx0.trans hx1)
  have hggH := Lib.hid hgg
  have c1 := hgg.c1
  clear hB hW hx0 hx1 hrs k2 hAs k0 hgg hg
  go_wp2
  obtain ⟨h1, h2⟩ := hS.out _ rfl
  have hg1 := hggH.out.but h1 (fun e => hgB.out e.symm)
  refine door_tally rfl h2 (h1.cell j0 hBr) hg1.c3 hg1.f3 hA hgB.out ?_
  refine ⟨_, rfl, rfl, hg1.tally a2 b2, ?_⟩
  exact (((But.of_ext (S := fun k => k = g) hxw.out)).fresh h1 (by rintro i rfl; have := hBw.out; omega)).trans (setC_but _ ⟨g, 3, none⟩ _)

theorem strOf_bsK (s : ByteArray) (l : List UInt8) (h : bs s = l) : s = strOf l := by rw [← h]; exact (strOf_bs' s).symm

set_option maxRecDepth 100000 in
set_option maxHeartbeats 3200000 in
theorem pCheckR (g t P T m mb mk : Nat) (v : Value) (ck : Int) (rs : List Rl) (G : GT) (es : Array MapEntry) (x y : Nat) (kd tick to : Int) (ba : Option Addr) (bc : Nat) (key : ByteArray) (l : List UInt8) (hl : l.length ≤ 1000000) (w : World) (hb : IsBytes w ba l)
    (hG : RulesGate w g t P T v m ck rs G mb es mk x y) (hE : aE l = 0) (a1 b1 a2 b2 : Nat) (hA : Adds x y a1 b1 a2 b2) (Rr : Ans → Array MapEntry → Nat → Prop)
    (hCh : ∀ r ∈ rs, ∀ w', Ext w w' → Calls Tryz.prog 94 #[.pointer (some ⟨t, 0, none⟩), .string (strOf (aK l)), rlV r, .int .u64 (aV l)] w' fun e w'' => ∃ a es' mk', e = .returned (ansV a) ∧ Rr a es' mk' ∧ TabAt w'' t m ck mb es' mk' ∧ But (fun j => j = mb) w' w'') :
    Calls Tryz.prog 68 #[.pointer (some ⟨g, 0, none⟩), opV kd tick (.slice ba l.length bc) key to] w fun e w' => ∃ a es' mk', e = .returned (ansV a) ∧ Rr a es' mk' ∧ (∃ x' y', (a.code = 1 → x' = a1 ∧ y' = b1) ∧ (a.code ≠ 1 → x' = a2 ∧ y' = b2) ∧ RulesGate w' g t P T v m ck rs G mb es' mk' x' y') ∧ But (fun j => j = g ∨ j = mb) w w' := by
  have hAs := fun W (hx : Ext w W) => pAsk ba bc l hl W (hb.ext hx)
  have hkR := aK_right hE
  have hkl : (aK l).length ≤ 1000000 := by unfold kRight at hkR; simp at hkR; omega
  rw [hE] at hAs
  generalize aK l = K at *
  generalize aV l = V at *
  have hFd := fun W (hx : Ext w W) => pFind rs T G W (hG.tree.ext hx) hG.dflt K hkl
  have hmf : ∀ (fn : Fn) (first cap : Array Value) (w : World), (Instr.makeFunc fn first cap).run Tryz.prog w = .ok (.func fn first cap) w := fun _ _ _ _ => rfl
  have hgl : g < w.heap.size := World.block_lt_of_cell? w _ hG.gate.c0
  have hml : mb < w.heap.size := (Array.getElem?_eq_some_iff.1 hG.tab.m).1
  have hgm : g ≠ mb := fun e => cells_no_map hG.gate.c0 (e ▸ hG.tab.m)
  clear hb hE hkR hkl
  unfold opV
  unfold rlV at hFd hCh
  go_enter_defers Tryz.func68, Tryz.ntmps68
  obtain ⟨B, hB⟩ : ∃ B, w.heap.size = B := ⟨_, rfl⟩
  obtain ⟨W, hW⟩ : ∃ W, ((w.alloc (.cells #[.pointer (some ⟨g, 0, none⟩)] 63)).alloc (.cells #[.int .u8 kd, .int .i64 tick, .slice ba l.length bc, .string key, .int .u8 to] 37)).alloc (.cells #[.int .u8 0, .int .u16 0, .int .u64 0, .int .u64 0, .int .u64 0, .int .u64 0, .int .u64 0, .bool false, .int .i64 0, .slice none 0 0] 43) = W := ⟨_, rfl⟩
  have hx0 : Ext w W := by rw [← hW]; exact (((Ext.refl w).alloc _).alloc _).alloc _
  have hrs : Hid (ZeroAns W (B + 1 + 1)) := Lib.hid (by subst hW hB; exact ⟨⟨by go_simp, by go_simp, by go_simp, by go_simp, by go_simp, by go_simp, by go_simp, by go_simp, by go_simp, by go_simp⟩, by go_simp, by go_simp, by go_simp, by go_simp, by go_simp, by go_simp, by go_simp, by go_simp, by go_simp, by go_simp⟩)
  have k2 : W.cell? ⟨B + 1, 2, none⟩ = some (.slice ba l.length bc) := by subst hW hB; go_simp
  have k0 : W.cell? ⟨B, 0, none⟩ = some (.pointer (some ⟨g, 0, none⟩)) := by subst hW hB; go_simp
  have hBw := Lib.hid hB
  have hgB : Hid (B + 1 + 1 ≠ g ∧ B ≠ mb ∧ B + 1 + 1 ≠ mb ∧ B ≠ B + 1 + 1) := Lib.hid ⟨by omega, by omega, by omega, by omega⟩
  go_wp2_with fail
  refine (hAs W hx0).mono ?_
  rintro e W1 ⟨kk, rfl, hkk, hx1⟩
  obtain rfl := strOf_bsK kk K hkk
  have hz1 := Lib.hid (hrs.out.but (But.of_ext hx1) (Nat.not_le.2 (World.block_lt_of_cell? W _ hrs.out.1.1)))
  have hxw := Lib.hid (hx0.trans hx1)
  have j0 := hx1.reads k0
  have hG1 := Lib.hid (hG.ext (hx0.trans hx1))
  have c0 := hG1.out.gate.c0
  have c1 := hG1.out.gate.c1
  have c2 := hG1.out.gate.c2
  clear hB hW hx0 hx1 hrs k2 hAs k0 hkk
  go_wp2_with fail
  refine (hFd W1 hxw.out).mono ?_
  rintro e W2 ⟨r, hr, rfl, hx2⟩
  have hCr := fun w' h => hCh r hr w' (hxw.out.trans h)
  have hz2 := Lib.hid (hz1.out.but (But.of_ext hx2) (Nat.not_le.2 (World.block_lt_of_cell? W1 _ hz1.out.1.1)))
  have hG2 := Lib.hid (hG1.out.ext hx2)
  have j2 := hx2.reads j0
  have hx2H := Lib.hid hx2
  clear c0 c1 c2 hFd hCh hz1 hG1 j0
  have c0 := hG2.out.gate.c0
  obtain ⟨W3, hW3⟩ : ∃ W3, W2.alloc (.cells #[.string (strOf r.pre), .int .u64 r.ev, .int .u64 r.bu, .int .u8 (r.kd : Int)] 47) = W3 := ⟨_, rfl⟩
  clear hx2
  go_wp2
  have hx23 : Ext W2 W3 := by rw [← hW3]; exact (Ext.refl W2).alloc _
  obtain ⟨X, hX⟩ : ∃ X, W2.heap.size = X := ⟨_, rfl⟩
  have q : W3.cell? ⟨X, 0, none⟩ = some (.string (strOf r.pre)) ∧ W3.cell? ⟨X, 1, none⟩ = some (.int .u64 r.ev) ∧ W3.cell? ⟨X, 2, none⟩ = some (.int .u64 r.bu) ∧ W3.cell? ⟨X, 3, none⟩ = some (.int .u8 (r.kd : Int)) := by
    subst hW3 hX; exact ⟨by go_simp, by go_simp, by go_simp, by go_simp⟩
  obtain ⟨q0, q1, q2, q3⟩ := q
  have j3 := hx23.reads j2
  have d0 := hx23.reads c0
  rw [hX]
  have hG3 := Lib.hid (hG2.out.ext hx23)
  have hz3 := Lib.hid (hz2.out.but (But.of_ext hx23) (Nat.not_le.2 (World.block_lt_of_cell? W2 _ hz2.out.1.1)))
  have hCr3 := fun w' h => hCr w' ((hx2H.out.trans hx23).trans h)
  have hxw3 := Lib.hid (hxw.out.trans (hx2H.out.trans hx23))
  clear hW3 hX hx23 hG2 hz2 j2 c0 hCr
  go_still_tail 7, (by kernel_rfl)
  go_wp2_with fail
  refine (hCr3 _ ((Ext.refl W3).drew)).mono ?_
  rintro e W4 ⟨a, es', mk', rfl, hR, hT4, hb4⟩
  have hz4 := hz3.out.but (But.drew (But.refl (fun j => j = mb) W3) |>.trans hb4) hgB.out.2.2.1
  have hG4 := Lib.hid (((hG3.out.ext ((Ext.refl W3).drew))).butm hb4 hT4)
  have j4 := Lib.hid (hb4.cell (show W3.drew.cell? ⟨B, 0, none⟩ = _ from j3) hgB.out.2.1)
  have hw4 := Lib.hid ((But.of_ext (S := fun j => j = mb) hxw3.out).trans ((But.drew (But.refl (fun j => j = mb) W3)).trans hb4))
  obtain ⟨xc, xe, xl, xf, xr, xa, xn, xt, xm⟩ := a
  have hS := Lib.hid (ans_store W4 (B + 1 + 1) hz4 ⟨xc, xe, xl, xf, xr, xa, xn, xt, xm⟩)
  have hz4d := Lib.hid (And.intro hz4.1.1 hR)
  obtain ⟨⟨a0, a1', a2', a3, a4, a5, a6, a7, a8, a9⟩, b0, b1', b2', b3, b4, b5, b6, b7, b8, b9⟩ := hz4
  clear hCr3 hb4 hT4 hz3 hG3 j3 d0 q0 q1 q2 q3 hx2H hxw hxw3 hR
  simp only [ansV]
  go_wp2
  obtain ⟨h1, h2⟩ := hS.out _ rfl
  have hG5 := hG4.out.but1 h1 hz4d.out.1 (by intro s h; cases h) (fun e => hgB.out.1 e.symm) (fun e => ?_) (fun e => ?_)
  refine door_tally rfl h2 (h1.cell j4.out hgB.out.2.2.2) hG5.gate.c3 hG5.gate.f3 hA hgB.out.1 ?_
  refine ⟨⟨xc, xe, xl, xf, xr, xa, xn, xt, xm⟩, rfl, es', mk', hz4d.out.2, ?_, ?_⟩
  · by_cases hc : xc = 1
    · rw [if_pos hc]
      exact ⟨a1, b1, fun _ => ⟨rfl, rfl⟩, fun h => (h hc).elim, hG5.tally a1 b1⟩
    · rw [if_neg hc]
      exact ⟨a2, b2, fun h => (hc h).elim, fun _ => ⟨rfl, rfl⟩, hG5.tally a2 b2⟩
  · exact ((((hw4.out.mono (fun j h => Or.inr h)).fresh h1 (by rintro i rfl; have := hBw.out; omega))).trans ((setC_but _ ⟨g, 3, none⟩ _).mono (fun j h => Or.inl h)))
  · have h3 := hG4.out.tab.c0
    rw [e, hz4d.out.1] at h3
    cases h3
  · have h3 := hG4.out.p0
    rw [e, hz4d.out.1] at h3
    cases h3

end Go.Proofs.YtdgcgpapcbjfhaaGreatDoor

/- A gate does a reload, a check, a tick. -/
namespace Go.Proofs.YtdgcgpapcbjfhaaGreatDoor
open Go.RowKit

theorem Ext.ofBut {w w' : World} (h : But (fun _ => False) w w') : Ext w w' := h.ext (Ext.refl _) (fun _ h => h.elim)
theorem Ext.set1 {w A B : World} {R : Nat} (h : Ext w A) (hb : But (fun k => k = R) A B) (hR : w.heap.size ≤ R) : Ext w B :=
  Ext.ofBut ((But.of_ext (S := fun _ => False) h).fresh hb (by rintro i rfl; exact hR))

theorem RulesGate.box {w w' : World} {g t P T : Nat} {v : Value} {m : Nat} {ck : Int} {rs : List Rl} {G : GT} {mb : Nat} {es : Array MapEntry} {mk tx ty R : Nat} (h : RulesGate w g t P T v m ck rs G mb es mk tx ty) (hc : w.cell? ⟨R, 0, none⟩ = some (.int .u8 0)) (hb : But (fun k => k = R) w w') : RulesGate w' g t P T v m ck rs G mb es mk tx ty :=
  h.but1 hb hc (by intro s e; cases e) (fun e => by have h1 := h.gate.c0; rw [e, hc] at h1; cases h1) (fun e => by have h1 := h.tab.c0; rw [e, hc] at h1; cases h1) (fun e => by have h1 := h.p0; rw [e, hc] at h1; cases h1)

/-- the clock may turn -/
theorem RulesGate.butt {w w' : World} {g t P T : Nat} {v : Value} {m : Nat} {ck ck' : Int} {rs : List Rl} {G : GT} {mb : Nat} {es : Array MapEntry} {mk tx ty : Nat} (h : RulesGate w g t P T v m ck rs G mb es mk tx ty) (hb : But (fun k => k = t) w w') (hT : TabAt w' t m ck' mb es mk) : RulesGate w' g t P T v m ck' rs G mb es mk tx ty := by
  have h0 := h.tab.c0
  have hy : ∀ s, (Value.int .i64 m) ≠ .string s := fun s e => by cases e
  have hg : g ≠ t := fun e => by have h1 := h.gate.c0; rw [e, h0] at h1; cases h1
  have hv : ∀ c : Int, v ≠ .int .u64 c := fun c e => by
    obtain ⟨a, cp, hv, -⟩ := h.rules.form
    rw [hv] at e; cases e
  have hP : P ≠ t := fun e => by have h1 := h.p1; rw [e, h.tab.c1] at h1; exact hv _ (Option.some.inj h1).symm
  exact ⟨h.gate.but hb hg, hT, hb.cell h.p0 hP, hb.cell h.p1 hP, h.rules.but1 hb h0 hy, h.tree.but1 hb h0 hy, h.dflt, h.apart⟩

theorem pDoReload (g t : Nat) (p tr : Option Addr) (x y : Nat) (mo ck : Int) (h0 : 0 ≤ ck) (mb mk : Nat) (tick to : Int) (ba : Option Addr) (bc : Nat) (key : ByteArray) (l : List UInt8) (hl : l.length ≤ 900000) (hcap : l.length ≤ bc) (w : World) (hb : IsBytes w ba l)
    (hg : GateAt w g t p tr x y) (hT : TabAt w t mo ck mb #[] mk) (hgt : g ≠ t) :
    Calls Tryz.prog 18 #[.pointer (some ⟨g, 0, none⟩), opV 5 tick (.slice ba l.length bc) key to] w fun e w' => ∃ a, e = .returned (ansV a) ∧ But (fun k => k = g ∨ k = t) w w' ∧
      (((cfg l).2.1 ≠ 0 ∧ a.code = 7 ∧ Ext w w') ∨ ((cfg l).2.1 = 0 ∧ a.code = 6 ∧ ∃ t2 P T v G mb2, RulesGate w' g t2 P T v (cfg l).1.most ck (cfg l).1.rules G mb2 #[] 0 x y ∧ w.heap.size ≤ mb2 ∧ w.heap.size ≤ t2)) := by
  have hgl : g < w.heap.size := World.block_lt_of_cell? w _ hg.c0
  have htl : t < w.heap.size := World.block_lt_of_cell? w _ hT.c0
  refine (pDo g w 5 tick to ba l.length bc key 71 4 (.inr (.inr rfl)) rfl
    (fun n a A => But (fun k => k = g ∨ k = t) w A ∧ (((cfg l).2.1 ≠ 0 ∧ a.code = 7 ∧ Ext w A) ∨ ((cfg l).2.1 = 0 ∧ a.code = 6 ∧ ∃ t2 P T v G mb2, RulesGate A g t2 P T v (cfg l).1.most ck (cfg l).1.rules G mb2 #[] 0 x y ∧ w.heap.size ≤ mb2 ∧ w.heap.size ≤ t2)))
    ?_ ?_).mono ?_
  · rintro n R a A B hR hRn hc ⟨hb1, h⟩ hb2
    refine ⟨hb1.fresh hb2 (by rintro i rfl; exact hR), ?_⟩
    rcases h with ⟨h1, h2, h3⟩ | ⟨h1, h2, t2, P, T, v, G, mb2, h3, h4⟩
    · exact .inl ⟨h1, h2, h3.set1 hb2 hR⟩
    · exact .inr ⟨h1, h2, t2, P, T, v, G, mb2, h3.box hc hb2, h4⟩
  · intro w' hx
    refine (pReload g t p tr x y mo ck h0 mb mk tick to ba bc key l hl hcap w' (hb.ext hx) (hg.ext hx) (hT.ext hx) hgt).mono ?_
    rintro e w'' ⟨a, he, hbt, h⟩
    refine ⟨a, he, hbt.mono (by rintro k (rfl | rfl) <;> assumption), (But.of_ext hx).trans hbt, ?_⟩
    rcases h with ⟨h1, h2, h3⟩ | ⟨h1, h2, t2, P, T, v, G, mb2, h3, h4⟩
    · exact .inl ⟨h1, h2, hx.trans h3⟩
    · exact .inr ⟨h1, h2, t2, P, T, v, G, mb2, h3, Nat.le_trans hx.size h4.1, Nat.le_trans hx.size h4.2⟩
  · rintro e w' ⟨a, n, hn, he, hb1, h⟩
    exact ⟨a, he, hb1, h⟩

theorem pDoBad (g : Nat) (tick to : Int) (ba : Option Addr) (bc : Nat) (key : ByteArray) (l : List UInt8) (hl : l.length ≤ 1000000) (w : World) (hb : IsBytes w ba l) (hE : aE l ≠ 0) :
    Calls Tryz.prog 18 #[.pointer (some ⟨g, 0, none⟩), opV 2 tick (.slice ba l.length bc) key to] w fun e w' => ∃ a, e = .returned (ansV a) ∧ a.code = 5 ∧ Ext w w' := by
  refine (pDo g w 2 tick to ba l.length bc key 68 1 (.inr (.inl rfl)) rfl (fun n a A => a.code = 5 ∧ Ext w A) ?_ ?_).mono ?_
  · rintro n R a A B hR hRn hc ⟨h1, h2⟩ hb2
    exact ⟨h1, h2.set1 hb2 hR⟩
  · intro w' hx
    refine (pCheckBad g 2 tick to ba bc key l hl w' (hb.ext hx) hE).mono ?_
    rintro e w'' ⟨a, he, h1, h2⟩
    exact ⟨a, he, But.of_ext h2, h1, hx.trans h2⟩
  · rintro e w' ⟨a, n, hn, he, h⟩
    exact ⟨a, he, h⟩

theorem pDoNone (g t : Nat) (tr : Option Addr) (x y : Nat) (tick to : Int) (ba : Option Addr) (bc : Nat) (key : ByteArray) (l : List UInt8) (hl : l.length ≤ 1000000) (w : World) (hb : IsBytes w ba l) (hg : GateAt w g t none tr x y) (hE : aE l = 0) (a1 b1 a2 b2 : Nat) (hA : Adds x y a1 b1 a2 b2) :
    Calls Tryz.prog 18 #[.pointer (some ⟨g, 0, none⟩), opV 2 tick (.slice ba l.length bc) key to] w fun e w' => ∃ a, e = .returned (ansV a) ∧ a.code = 4 ∧ GateAt w' g t none tr a2 b2 ∧ But (fun k => k = g) w w' := by
  have hgl : g < w.heap.size := World.block_lt_of_cell? w _ hg.c0
  refine (pDo g w 2 tick to ba l.length bc key 68 1 (.inr (.inl rfl)) rfl (fun n a A => a.code = 4 ∧ GateAt A g t none tr a2 b2 ∧ But (fun k => k = g) w A) ?_ ?_).mono ?_
  · rintro n R a A B hR hRn hc ⟨h1, h2, h3⟩ hb2
    exact ⟨h1, h2.but hb2 (by omega), h3.fresh hb2 (by rintro i rfl; exact hR)⟩
  · intro w' hx
    refine (pCheckNone g t tr x y 2 tick to ba bc key l hl w' (hb.ext hx) (hg.ext hx) hE a1 b1 a2 b2 hA).mono ?_
    rintro e w'' ⟨a, he, h1, h2, h3⟩
    exact ⟨a, he, h3.mono (by rintro k rfl; exact hgl), h1, h2, (But.of_ext hx).trans h3⟩
  · rintro e w' ⟨a, n, hn, he, h⟩
    exact ⟨a, he, h⟩

theorem pDoR (g t P T m mb mk : Nat) (v : Value) (ck : Int) (rs : List Rl) (G : GT) (es : Array MapEntry) (x y : Nat) (tick to : Int) (ba : Option Addr) (bc : Nat) (key : ByteArray) (l : List UInt8) (hl : l.length ≤ 1000000) (w : World) (hb : IsBytes w ba l)
    (hG : RulesGate w g t P T v m ck rs G mb es mk x y) (hE : aE l = 0) (a1 b1 a2 b2 : Nat) (hA : Adds x y a1 b1 a2 b2) (Rr : Ans → Array MapEntry → Nat → Prop)
    (hCh : ∀ r ∈ rs, ∀ w', Ext w w' → Calls Tryz.prog 94 #[.pointer (some ⟨t, 0, none⟩), .string (strOf (aK l)), rlV r, .int .u64 (aV l)] w' fun e w'' => ∃ a es' mk', e = .returned (ansV a) ∧ Rr a es' mk' ∧ TabAt w'' t m ck mb es' mk' ∧ But (fun j => j = mb) w' w'') :
    Calls Tryz.prog 18 #[.pointer (some ⟨g, 0, none⟩), opV 2 tick (.slice ba l.length bc) key to] w fun e w' => ∃ a es' mk', e = .returned (ansV a) ∧ Rr a es' mk' ∧ (∃ x' y', (a.code = 1 → x' = a1 ∧ y' = b1) ∧ (a.code ≠ 1 → x' = a2 ∧ y' = b2) ∧ RulesGate w' g t P T v m ck rs G mb es' mk' x' y') ∧ But (fun j => j = g ∨ j = mb) w w' := by
  have hgl : g < w.heap.size := World.block_lt_of_cell? w _ hG.gate.c0
  have hml : mb < w.heap.size := (Array.getElem?_eq_some_iff.1 hG.tab.m).1
  refine (pDo g w 2 tick to ba l.length bc key 68 1 (.inr (.inl rfl)) rfl (fun n a A => ∃ es' mk', Rr a es' mk' ∧ (∃ x' y', (a.code = 1 → x' = a1 ∧ y' = b1) ∧ (a.code ≠ 1 → x' = a2 ∧ y' = b2) ∧ RulesGate A g t P T v m ck rs G mb es' mk' x' y') ∧ But (fun j => j = g ∨ j = mb) w A) ?_ ?_).mono ?_
  · rintro n R a A B hR hRn hc ⟨es', mk', h1, ⟨x', y', h2, h3, h4⟩, h5⟩ hb2
    exact ⟨es', mk', h1, ⟨x', y', h2, h3, h4.box hc hb2⟩, h5.fresh hb2 (by rintro i rfl; exact hR)⟩
  · intro w' hx
    refine (pCheckR g t P T m mb mk v ck rs G es x y 2 tick to ba bc key l hl w' (hb.ext hx) (hG.ext hx) hE a1 b1 a2 b2 hA Rr (fun r hr w'' h => hCh r hr w'' (hx.trans h))).mono ?_
    rintro e w'' ⟨a, es', mk', he, h1, h2, h3⟩
    exact ⟨a, he, h3.mono (by rintro k (rfl | rfl) <;> assumption), es', mk', h1, h2, (But.of_ext hx).trans h3⟩
  · rintro e w' ⟨a, n, hn, he, es', mk', h⟩
    exact ⟨a, es', mk', he, h⟩

theorem pDoTick (g t P T m mb mk : Nat) (v : Value) (ck : Int) (rs : List Rl) (G : GT) (es : Array MapEntry) (x y : Nat) (tick to : Int) (ba : Option Addr) (bn bc : Nat) (key : ByteArray) (n : Int) (ht1 : -9223372036854775808 ≤ tick) (ht2 : tick ≤ 9223372036854775807) (hn : max tick 0 = n) (w : World)
    (hG : RulesGate w g t P T v m ck rs G mb es mk x y) :
    Calls Tryz.prog 18 #[.pointer (some ⟨g, 0, none⟩), opV 1 tick (.slice ba bn bc) key to] w fun e w' => ∃ a, e = .returned (ansV a) ∧ RulesGate w' g t P T v m (max ck n) rs G mb es mk x y ∧ But (fun k => k = t) w w' := by
  have htl : t < w.heap.size := World.block_lt_of_cell? w _ hG.tab.c0
  have hgt : g ≠ t := fun e => by have h1 := hG.gate.c0; rw [e, hG.tab.c0] at h1; cases h1
  refine (pDo g w 1 tick to ba bn bc key 67 0 (.inl rfl) rfl (fun n' a A => RulesGate A g t P T v m (max ck n) rs G mb es mk x y ∧ But (fun k => k = t) w A) ?_ ?_).mono ?_
  · rintro n R a A B hR hRn hc ⟨h1, h2⟩ hb2
    exact ⟨h1.box hc hb2, h2.fresh hb2 (by rintro i rfl; exact hR)⟩
  · intro w' hx
    have h1 := hG.ext hx
    refine (pTickG g t _ _ x y m ck mb es mk 1 tick to ba bn bc key n ht1 ht2 hn w' h1.gate h1.tab hgt).mono ?_
    rintro e w'' ⟨he, h2, h3⟩
    exact ⟨_, he, h3.mono (by rintro k rfl; exact htl), h1.butt h3 h2, (But.of_ext hx).trans h3⟩
  · rintro e w' ⟨a, n', hn', he, h⟩
    exact ⟨a, he, h⟩

end Go.Proofs.YtdgcgpapcbjfhaaGreatDoor

/- What a gate tells of operations. -/
namespace Go.Proofs.YtdgcgpapcbjfhaaGreatDoor
open Go.RowKit

def ansCells (a : Ans) : List Value := [.int .u8 a.code, .int .u16 a.err, .int .u64 a.lim, .int .u64 a.left, .int .u64 a.reset, .int .u64 a.after, .int .u64 a.nanos, .bool a.retry, .int .i64 a.many, .slice none 0 0]
def ansRow : List Ans → List Value
  | [] => []
  | a :: l => ansCells a ++ ansRow l
theorem ansRow_app : ∀ (a b : List Ans), ansRow (a ++ b) = ansRow a ++ ansRow b
  | [], b => rfl
  | x :: a, b => by rw [List.cons_append, ansRow, ansRow, ansRow_app a b, List.append_assoc]
theorem ansRow_len : ∀ l : List Ans, (ansRow l).length = l.length * 10
  | [] => rfl
  | x :: l => by rw [ansRow, List.length_append, ansRow_len l]; simp [ansCells]; omega
theorem ansRow_one (l : List Ans) : ∀ u ∈ ansRow l, u.oneCell' = true := by
  induction l with
  | nil => simp [ansRow]
  | cons r rs ih =>
    intro u hu
    rw [ansRow, List.mem_append] at hu
    rcases hu with hu | hu
    · simp [ansCells] at hu
      rcases hu with rfl | rfl | rfl | rfl | rfl | rfl | rfl | rfl | rfl | rfl <;> rfl
    · exact ih u hu
theorem ansRow_get : ∀ (l : List Ans) (i j : Nat), i < l.length → j < 10 → (ansRow l)[i * 10 + j]? = (ansCells (l.getD i ⟨0, 0, 0, 0, 0, 0, 0, false, 0⟩))[j]?
  | [], i, j, h, _ => by simp at h
  | x :: l, 0, j, _, hj => by
    rw [ansRow, List.getElem?_append_left (by simp [ansCells]; omega)]
    simp
  | x :: l, i + 1, j, h, hj => by
    rw [ansRow, List.getElem?_append_right (by simp [ansCells]; omega)]
    rw [show (i + 1) * 10 + j - (ansCells x).length = i * 10 + j by simp [ansCells]; omega, ansRow_get l i j (by simpa using h) hj]
    simp

theorem infoAns : (Tryz.prog.info? 43).map (fun i => (i.zero, i.size, i.bytes)) = some (some (.agg #[.int .u8 0, .int .u16 0, .int .u64 0, .int .u64 0, .int .u64 0, .int .u64 0, .int .u64 0, .bool false, .int .i64 0, .slice none 0 0]), 10, 88) := by kernel_rfl

set_option maxRecDepth 100000 in
set_option maxHeartbeats 1600000 in
theorem pAll (g ob n cap M : Nat) (kd tk : Nat → Int) (ba : Nat → Option Addr) (bn bc : Nat → Nat) (St : Nat → Nat → World → Prop) (Good : Nat → Ans → Prop) (hn : n ≤ 1000) (hcap : n ≤ cap) (w : World)
    (hop : ∀ k, k < n → w.cell? ⟨ob, k * 5, none⟩ = some (.int .u8 (kd k)) ∧ w.cell? ⟨ob, k * 5 + 1, none⟩ = some (.int .i64 (tk k)) ∧ w.cell? ⟨ob, k * 5 + 2, none⟩ = some (.slice (ba k) (bn k) (bc k)) ∧ w.cell? ⟨ob, k * 5 + 3, none⟩ = some (.string ⟨#[]⟩) ∧ w.cell? ⟨ob, k * 5 + 4, none⟩ = some (.int .u8 0))
    (hM : ob < M) (hMw : M ≤ w.heap.size) (hst : ∃ N, M ≤ N ∧ N ≤ w.heap.size ∧ St 0 N w)
    (hext : ∀ k N A B, St k N A → But (fun i => N ≤ i) A B → St k N B)
    (hstep : ∀ k, k < n → ∀ N wr, St k N wr → M ≤ N → N ≤ wr.heap.size → But (fun i => M ≤ i) w wr → Calls Tryz.prog 18 #[.pointer (some ⟨g, 0, none⟩), opV (kd k) (tk k) (.slice (ba k) (bn k) (bc k)) ⟨#[]⟩ 0] wr fun e w' => ∃ a N', e = .returned (ansV a) ∧ Good k a ∧ St (k + 1) N' w' ∧ N ≤ N' ∧ N' ≤ w'.heap.size ∧ (k = 0 ∨ N' = N) ∧ But (fun i => M ≤ i ∧ i < N) wr w') :
    Calls Tryz.prog 21 #[.pointer (some ⟨g, 0, none⟩), .slice (some ⟨ob, 0, none⟩) n cap] w fun e w' => ∃ v ans N, e = .returned v ∧ ans.length = n ∧ (∀ k, k < n → Good k (ans.getD k ⟨0, 0, 0, 0, 0, 0, 0, false, 0⟩)) ∧ w'.ownsRow N 43 10 v n (ansRow ans) ∧ But (fun i => M ≤ i) w w' := by
  obtain ⟨i0, hi, hz0, hz1, hz2⟩ := info_parts infoAns
  have hopH := Lib.hid hop
  have hextH := Lib.hid hext
  have hstepH := Lib.hid hstep
  clear hop hext hstep
  go_enter Tryz.func21, Tryz.ntmps21
  go_wp2
  go_loopw [5, 10] (fun out i wr => ∃ (k : Nat) (ans : List Ans) (N : Nat), k ≤ n ∧ i = .int .i64 k ∧ ans.length = k ∧ Hid (∀ j, j < k → Good j (ans.getD j ⟨0, 0, 0, 0, 0, 0, 0, false, 0⟩)) ∧ Hid (St k N wr) ∧ wr.ownsRow N 43 10 out k (ansRow ans) ∧ (k = 0 → out = .slice none 0 0) ∧ Hid (But (fun i => M ≤ i) w wr ∧ M ≤ N ∧ N ≤ wr.heap.size)) (fun _ i _ => n - (intOf i).toNat)
  case atStart =>
    obtain ⟨N, h1, h2, h3⟩ := hst
    exact ⟨0, [], N, Nat.zero_le _, rfl, rfl, Lib.hid (fun j hj => by omega), Lib.hid h3, World.ownsRow_nil _ _ _ _, fun _ => rfl, Lib.hid ⟨But.refl _ _, h1, h2⟩⟩
  case round =>
    obtain ⟨k, ans, N, hk, rfl, has, hG, hS, hown, h0, hB⟩ := hrel
    by_cases hlt : k < n
    · obtain ⟨c0, c1, c2, c3, c4⟩ := hopH.out k hlt
      have hMn : ¬ M ≤ ob := by omega
      have d0 := hB.out.1.cell c0 hMn
      have d1 := hB.out.1.cell c1 hMn
      have d2 := hB.out.1.cell c2 hMn
      have d3 := hB.out.1.cell c3 hMn
      have d4 := hB.out.1.cell c4 hMn
      have hD := fun W (hx : Ext wr W) => hstepH.out k hlt N W (hextH.out k N wr W hS.out (But.of_ext hx)) hB.out.2.1 (Nat.le_trans hB.out.2.2 hx.size) (hB.out.1.trans (But.of_ext hx))
      generalize kd k = KD at *
      generalize tk k = TK at *
      generalize ba k = BA at *
      generalize bn k = BN at *
      generalize bc k = BC at *
      unfold opV at hD
      clear c0 c1 c2 c3 c4 hst
      have hownH := Lib.hid hown
      have h0H := Lib.hid h0
      clear hown h0
      go_wp2_with fail
      refine (hD _ ((Ext.refl wr).alloc _)).mono ?_
      rintro e w2 ⟨a, N', rfl, hGa, hSa, hN1, hN2, hN3, hbt⟩
      have hown2 : w2.ownsRow N' 43 10 u5 k (ansRow ans) := by
        rcases hN3 with h3 | h3
        · subst h3
          obtain rfl := h0H.out rfl
          obtain rfl := List.eq_nil_of_length_eq_zero has
          exact World.ownsRow_nil _ _ _ _
        · subst h3
          refine hbt.owns (hownH.out.alloc _) ?_
          intro x hx h4
          have := (hownH.out.lt x hx).1
          omega
      have hB2 : Hid (But (fun i => M ≤ i) w w2) := Lib.hid (hB.out.1.trans (((But.of_ext ((Ext.refl wr).alloc _))).trans (hbt.mono (fun i h => h.1))))
      have hGood : Hid (∀ j, j < k + 1 → Good j ((ans ++ [a]).getD j ⟨0, 0, 0, 0, 0, 0, 0, false, 0⟩)) := Lib.hid (by
        intro j hj
        by_cases h : j = k
        · subst h
          rw [List.getD_eq_getElem?_getD, List.getElem?_append_right (by omega), has]
          simpa using hGa
        · have h5 := hG.out j (by omega)
          rw [List.getD_eq_getElem?_getD] at h5 ⊢
          rw [List.getElem?_append_left (by omega)]
          exact h5)
      have hSaH := Lib.hid hSa
      have hNN : Hid (M ≤ N' ∧ N' ≤ w2.heap.size) := Lib.hid ⟨by have := hB.out.2.1; omega, hN2⟩
      have hGaH := Lib.hid hGa
      obtain ⟨xc, xe, xl, xf, xr, xa, xn, xt, xm⟩ := a
      clear hbt hD hownH h0H hG hS hGa hSa hN1 hN3 hB d0 d1 d2 d3 d4
      simp only [ansV]
      go_wp2_with (at_builtin; refine wpList_append_own _ rfl _ _ 39 rfl N' 43 i0 _ 10 88 Tryz.underlying39 hi hz0 hz1 hz2 rfl (by decide) _ _ _ rfl (hown2.alloc _) ⟨w2.heap.size, 0, none⟩ 1 1 (ansCells ⟨xc, xe, xl, xf, xr, xa, xn, xt, xm⟩) rfl rfl ?c1 ?c2 ?c3 ?c4 ?c5 ?_)
      case c1 =>
        intro j u h
        exact cells_new w2 (ansCells ⟨xc, xe, xl, xf, xr, xa, xn, xt, xm⟩) (ansCells ⟨xc, xe, xl, xf, xr, xa, xn, xt, xm⟩).toArray 43 rfl j u h
      case c2 => exact fun u hu => ansRow_one [⟨xc, xe, xl, xf, xr, xa, xn, xt, xm⟩] u (by simpa [ansRow] using hu)
      case c3 => unfold maxLen; omega
      case c4 => omega
      case c5 => simp <;> omega
      intro v' w4 hown4 hgrow4 _
      have hb4 : But (fun i => N' ≤ i) w2 w4 := (But.of_ext ((Ext.refl w2).alloc _)).grown hgrow4 (fun x hx => (hown2.lt x hx).1)
      have hB4 := Lib.hid (hB2.out.trans (hb4.mono (fun i h => Nat.le_trans hNN.out.1 h)))
      have hS4 := Lib.hid (hextH.out (k + 1) N' w2 w4 hSaH.out hb4)
      have hown5 : w4.ownsRow N' 43 10 v' (k + 1) (ansRow (ans ++ [⟨xc, xe, xl, xf, xr, xa, xn, xt, xm⟩])) := by
        rw [ansRow_app, show ansRow [(⟨xc, xe, xl, xf, xr, xa, xn, xt, xm⟩ : Ans)] = ansCells ⟨xc, xe, xl, xf, xr, xa, xn, xt, xm⟩ by simp [ansRow]]
        exact hown4
      have hN4 : N' ≤ w4.heap.size := Nat.le_trans hNN.out.2 hb4.size
      have hN4H := Lib.hid hN4
      clear hown4 hgrow4 hown2 hb4 hSaH hN4 hN2
      go_wp2
      go_roundw
      case rel => exact ⟨k + 1, _, N', by omega, by go_num, by simp [has], hGood, hS4, hown5, fun h => by omega, Lib.hid ⟨hB4.out, hNN.out.1, hN4H.out⟩⟩
      case measure => simp [intOf]; omega
    · obtain rfl : k = n := by omega
      go_wp2
      go_ret
      exact ⟨_, ans, N, rfl, has, hG.out, hown, hB.out.1⟩

end Go.Proofs.YtdgcgpapcbjfhaaGreatDoor
