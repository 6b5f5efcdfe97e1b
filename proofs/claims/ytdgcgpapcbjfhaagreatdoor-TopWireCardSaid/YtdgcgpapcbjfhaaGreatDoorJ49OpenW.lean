/- Rows of bytes and of numbers of rules that came in. -/
import Derived.Test.YtdgcgpapcbjfhaaGreatDoorJ10LKey
import Derived.Test.YtdgcgpapcbjfhaaGreatDoorJ48Bent
import Derived.RegionTactic
import Derived.Deep.RegionHeld3
import Derived.Deep.CutRange
import Derived.OpenShut
import Derived.Lib.SmallJoins
import Derived.RowKit
import Derived.WideShapes
import Derived.Deep.Slices
set_option linter.unusedVariables false
set_option linter.unusedSimpArgs false

/- A policy of choices: what holds in memory. -/
namespace Go.Proofs.YtdgcgpapcbjfhaaGreatDoor
open Go.RowKit

/-- numbers of rules that came in -/
def IsNums (w : World) (a : Option Addr) (len : Nat) : Prop := len ≤ maxLen ∧ (len = 0 ∨ ∃ b off, a = some ⟨b, off, none⟩ ∧ ∀ i, i < len → ∃ (pa : Option Addr) (pc : Nat) (pl : List UInt8) (E B K : Nat),
  (w.cell? ⟨b, off + i * 4, none⟩ = some (.slice pa pl.length pc) ∧ w.cell? ⟨b, off + i * 4 + 1, none⟩ = some (.int .u32 E) ∧ w.cell? ⟨b, off + i * 4 + 2, none⟩ = some (.int .u16 B) ∧ w.cell? ⟨b, off + i * 4 + 3, none⟩ = some (.int .u8 K)) ∧ IsBytes w pa pl ∧ pl.length ≤ maxLen ∧ E ≤ 4294967295 ∧ B ≤ 65535 ∧ K ≤ 255)

/-- what a policy of choices has -/
structure OkPol (rs : List Rl) : Prop where
  ok : ∀ r ∈ rs, okR r
  len : ∀ r ∈ rs, r.pre.length ≤ 100
  dft : hasP rs [] = true
  apart : rs.Pairwise (fun a b => a.pre ≠ b.pre)
theorem OkPol.snoc {rs : List Rl} (h : OkPol rs) {r : Rl} (h1 : okR r) (h2 : r.pre.length ≤ 100) (h3 : hasP rs r.pre = false) : OkPol (rs ++ [r]) := by
  refine ⟨?_, ?_, ?_, ?_⟩
  · intro x hx; rw [List.mem_append] at hx; rcases hx with hx | hx
    · exact h.ok x hx
    · simp at hx; rw [hx]; exact h1
  · intro x hx; rw [List.mem_append] at hx; rcases hx with hx | hx
    · exact h.len x hx
    · simp at hx; rw [hx]; exact h2
  · have := h.dft
    unfold hasP at *
    rw [List.any_append, this]; rfl
  · rw [List.pairwise_append]
    refine ⟨h.apart, by simp, ?_⟩
    intro a ha b hb
    simp at hb
    subst hb
    exact hasP_false h3 a ha
theorem okR_of (pre : List UInt8) (ev bu kd : Nat) (hp : pre = [] ∨ kRight pre = true) (h1 : 1 ≤ ev) (h2 : ev ≤ 4294967296) (h3 : 1 ≤ bu) (h4 : bu ≤ 65536) (h5 : 1 ≤ kd) (h6 : kd ≤ 3) : okR ⟨pre, ev, bu, kd⟩ := by
  refine ⟨hp, ⟨by show (0 : Int) ≤ ev; omega, by show (ev : Int) ≤ _; omega⟩, ⟨by show (0 : Int) ≤ bu; omega, by show (bu : Int) ≤ _; omega⟩, h6, h5, by show (ev : Int) ≠ 0; omega, by show (bu : Int) ≠ 0; omega, ?_⟩
  show umul ev bu ≤ 4611686018427387904
  have hm : ((ev : Int) * (bu : Int)) ≤ 281474976710656 := by
    have : ev * bu ≤ 4294967296 * 65536 := Nat.mul_le_mul h2 h4
    have h9 : ((ev * bu : Nat) : Int) ≤ 281474976710656 := by omega
    rw [Int.natCast_mul] at h9; exact h9
  have hm0 : 0 ≤ ((ev : Int) * (bu : Int)) := Int.mul_nonneg (by omega) (by omega)
  unfold umul mulH mulL
  generalize (ev : Int) * (bu : Int) = M at *
  split <;> omega

/-- a rule's box, not frozen -/
def BoxR (w : World) (x : Nat) (p : ByteArray) (ev bu kd : Nat) : Prop := (w.cell? ⟨x, 0, none⟩ = some (.string p) ∧ w.cell? ⟨x, 1, none⟩ = some (.int .u64 ev) ∧ w.cell? ⟨x, 2, none⟩ = some (.int .u64 bu) ∧ w.cell? ⟨x, 3, none⟩ = some (.int .u8 kd)) ∧ w.frozen? ⟨x, 0, none⟩ = false ∧ w.frozen? ⟨x, 1, none⟩ = false ∧ w.frozen? ⟨x, 2, none⟩ = false ∧ w.frozen? ⟨x, 3, none⟩ = false

theorem BoxR.ext {w w' : World} {x : Nat} {p : ByteArray} {ev bu kd : Nat} (h : BoxR w x p ev bu kd) (hx : Ext w w') : BoxR w' x p ev bu kd := by
  obtain ⟨⟨a, b, c, d⟩, e, f, g, i⟩ := h
  exact ⟨⟨hx.reads a, hx.reads b, hx.reads c, hx.reads d⟩, hx.free a e, hx.free b f, hx.free c g, hx.free d i⟩
theorem newRb {w w9 : World} {ty : TypeId} (hx : Ext (w.alloc (.cells #[.string ⟨#[]⟩, .int .u64 0, .int .u64 0, .int .u8 0] ty)).drew w9) : BoxR w9 w.heap.size ⟨#[]⟩ 0 0 0 := by
  have h : BoxR (w.alloc (.cells #[.string ⟨#[]⟩, .int .u64 0, .int .u64 0, .int .u8 0] ty)) w.heap.size ⟨#[]⟩ 0 0 0 := ⟨⟨by go_simp, by go_simp, by go_simp, by go_simp⟩, by go_simp, by go_simp, by go_simp, by go_simp⟩
  exact h.ext (((Ext.refl _).drew).trans hx)
theorem BoxR.sets {w : World} {x : Nat} {p0 : ByteArray} {e0 b0 k0 : Nat} (h : BoxR w x p0 e0 b0 k0) (p : ByteArray) (ev bu kd : Nat) : BoxR ((((w.setCell ⟨x, 0, none⟩ (.string p)).setCell ⟨x, 1, none⟩ (.int .u64 ev)).setCell ⟨x, 2, none⟩ (.int .u64 bu)).setCell ⟨x, 3, none⟩ (.int .u8 kd)) x p ev bu kd := by
  obtain ⟨⟨a, b, c, d⟩, e, f, g, i⟩ := h
  refine ⟨⟨by go_simp, by go_simp, by go_simp, by go_simp⟩, ?_, ?_, ?_, ?_⟩ <;> (simp only [World.frozen?_setCell]; assumption)
theorem BoxR.set12 {w : World} {x : Nat} {p : ByteArray} {e0 b0 kd : Nat} (h : BoxR w x p e0 b0 kd) (ev bu : Nat) : BoxR ((w.setCell ⟨x, 1, none⟩ (.int .u64 ev)).setCell ⟨x, 2, none⟩ (.int .u64 bu)) x p ev bu kd := by
  obtain ⟨⟨a, b, c, d⟩, e, f, g, i⟩ := h
  refine ⟨⟨by go_simp, by go_simp, by go_simp, by go_simp⟩, ?_, ?_, ?_, ?_⟩ <;> (simp only [World.frozen?_setCell]; assumption)
theorem newRa (w : World) (p : ByteArray) (ev bu kd : Nat) (ty : TypeId) : BoxR (w.alloc (.cells #[.string p, .int .u64 ev, .int .u64 bu, .int .u8 kd] ty)) w.heap.size p ev bu kd := ⟨⟨by go_simp, by go_simp, by go_simp, by go_simp⟩, by go_simp, by go_simp, by go_simp, by go_simp⟩

/-- what holds from round to round -/
structure PolS (w : World) (m B0 k : Nat) (v : Value) (rs : List Rl) (wr : World) : Prop where
  a0 : wr.cell? ⟨B0, 0, none⟩ = some (.int .i64 0)
  a1 : wr.cell? ⟨B0, 1, none⟩ = some (.slice none 0 0)
  f0 : wr.frozen? ⟨B0, 0, none⟩ = false
  f1 : wr.frozen? ⟨B0, 1, none⟩ = false
  p0 : wr.cell? ⟨B0 + 1, 0, none⟩ = some (.int .i64 m)
  p1 : wr.cell? ⟨B0 + 1, 1, none⟩ = some v
  g1 : wr.frozen? ⟨B0 + 1, 1, none⟩ = false
  own : wr.ownsRow (B0 + 2) 47 4 v rs.length (rlCells rs)
  ok : OkPol rs
  len : rs.length ≤ k + 1
  x : Ext w wr
  sz : B0 + 2 ≤ wr.heap.size
  bw : w.heap.size = B0
theorem PolS.ext {w : World} {m B0 k : Nat} {v : Value} {rs : List Rl} {wr wr' : World} (h : PolS w m B0 k v rs wr) (hx : Ext wr wr') : PolS w m B0 k v rs wr' :=
  ⟨hx.reads h.a0, hx.reads h.a1, hx.free h.a0 h.f0, hx.free h.a1 h.f1, hx.reads h.p0, hx.reads h.p1, hx.free h.p1 h.g1, owns_ext h.own hx, h.ok, h.len, h.x.trans hx, Nat.le_trans h.sz hx.size, h.bw⟩
theorem PolS.up {w : World} {m B0 k : Nat} {v : Value} {rs : List Rl} {wr : World} (h : PolS w m B0 k v rs wr) : PolS w m B0 (k + 1) v rs wr := ⟨h.a0, h.a1, h.f0, h.f1, h.p0, h.p1, h.g1, h.own, h.ok, by have := h.len; omega, h.x, h.sz, h.bw⟩

theorem PolS.put {w : World} {m B0 k : Nat} {v old : Value} {rs : List Rl} {wr : World} (a0 : wr.cell? ⟨B0, 0, none⟩ = some (.int .i64 0)) (a1 : wr.cell? ⟨B0, 1, none⟩ = some (.slice none 0 0)) (f0 : wr.frozen? ⟨B0, 0, none⟩ = false) (f1 : wr.frozen? ⟨B0, 1, none⟩ = false) (p0 : wr.cell? ⟨B0 + 1, 0, none⟩ = some (.int .i64 m)) (p1 : wr.cell? ⟨B0 + 1, 1, none⟩ = some old) (g1 : wr.frozen? ⟨B0 + 1, 1, none⟩ = false)
    (own : wr.ownsRow (B0 + 2) 47 4 v rs.length (rlCells rs)) (ok : OkPol rs) (len : rs.length ≤ k + 1) (x : Ext w wr) (sz : B0 + 2 ≤ wr.heap.size) (bw : w.heap.size = B0) : PolS w m B0 k v rs (wr.setCell ⟨B0 + 1, 1, none⟩ v) := by
  have hb := (But.refl (fun x => x = B0 + 1) wr).setCell (p := ⟨B0 + 1, 1, none⟩) rfl v
  refine ⟨hb.cell a0 (by simp), hb.cell a1 (by simp), hb.free a0 (by simp) f0, hb.free a1 (by simp) f1, ?_, World.cell?_setCell_same _ _ _ p1, by rw [World.frozen?_setCell]; exact g1, hb.owns own (fun x hx h => by have := (own.lt x hx).1; omega), ok, len, x.set1 hb (by omega), Nat.le_trans sz hb.size, bw⟩
  rw [World.cell?_setCell_other (h := by simp)]; exact p0
theorem ok0 (m3 : Nat) (h : m3 < 3) : OkPol [⟨[], 1000, 5, 1 + m3⟩] := by
  refine ⟨?_, ?_, ?_, ?_⟩
  · intro r hr
    simp at hr
    subst hr
    exact okR_of [] 1000 5 (1 + m3) (.inl rfl) (by omega) (by omega) (by omega) (by omega) (by omega) (by omega)
  · intro r hr
    simp at hr
    subst hr
    simp
  · rfl
  · simp

theorem infoRp : (Tryz.prog.info? 47).map (fun i => (i.zero, i.size, i.bytes)) = some (some (.agg #[.string ⟨#[]⟩, .int .u64 0, .int .u64 0, .int .u8 0]), 4, 40) := by kernel_rfl

end Go.Proofs.YtdgcgpapcbjfhaaGreatDoor

/- A policy of choices. -/
namespace Go.Proofs.YtdgcgpapcbjfhaaGreatDoor
open Go.RowKit

set_option maxRecDepth 100000 in
set_option maxHeartbeats 6400000 in
theorem lPolicy (mo : Nat) (hmo : mo ≤ 65535) (a : Option Addr) (len cap : Nat) (w : World) (hI : IsNums w a len) :
    Calls Tryz.prog 6 #[.int .u16 mo, .slice a len cap] w fun e w' => ∃ (m : Nat) (v : Value) (rs : List Rl), e = .returned (plV m v) ∧ RulesAt w' v rs ∧ 1 ≤ m ∧ m ≤ 50 ∧ rs.length ≤ 13 ∧ OkPol rs ∧ Ext w w' := by
  obtain ⟨i0, hi, hz0, hz1, hz2⟩ := info_parts infoRp
  obtain ⟨hlm, hN⟩ := hI
  have hNH := Lib.hid hN
  have hlm' : len ≤ 9223372036854775807 := by unfold maxLen at hlm; exact hlm
  obtain ⟨m0, hm0⟩ : ∃ x, mo % 50 = x := ⟨_, rfl⟩
  obtain ⟨m3, hm3⟩ : ∃ x, mo % 3 = x := ⟨_, rfl⟩
  have hm0' : (mo : Int) % 50 = (m0 : Int) := by rw [← hm0]; simp
  have hm3' : (mo : Int) % 3 = (m3 : Int) := by rw [← hm3]; simp
  have hm0l : m0 < 50 := by rw [← hm0]; exact Nat.mod_lt _ (by omega)
  have hm3l : m3 < 3 := by rw [← hm3]; exact Nat.mod_lt _ (by omega)
  clear hm0 hm3 hN hlm
  go_enter Tryz.func6, Tryz.ntmps6
  obtain ⟨B0, hB0⟩ : ∃ B, w.heap.size = B := ⟨_, rfl⟩
  go_wp2_with (at_builtin; refine wpList_append_own _ rfl _ _ 28 rfl (B0 + 2) 47 i0 _ 4 40 Tryz.underlying28 hi hz0 hz1 hz2 rfl (by decide) _ 0 [] rfl (World.ownsRow_nil _ _ _ _) ⟨B0 + 1 + 1, 0, none⟩ 1 1 (rlCells [⟨[], 1000, 5, 1 + m3⟩]) rfl rfl ?c1 ?c2 ?c3 ?c4 ?c5 ?_)
  case c1 =>
    intro j u h
    subst hB0
    have h2 := cells_new ((w.alloc (.cells #[.int .i64 0, .slice none 0 0] 30)).alloc (.cells #[.int .i64 (1 + (m0 : Int)), .slice none 0 0] 30)) (rlCells [⟨[], 1000, 5, 1 + m3⟩]) (rlCells [⟨[], 1000, 5, 1 + m3⟩]).toArray 47 rfl j u h
    rw [show ((w.alloc (.cells #[.int .i64 0, .slice none 0 0] 30)).alloc (.cells #[.int .i64 (1 + (m0 : Int)), .slice none 0 0] 30)).heap.size = w.heap.size + 1 + 1 by simp] at h2
    rw [← h2]
    simp [rlCells, strOf]
  case c2 => exact rlCells_one _
  case c3 => unfold maxLen; omega
  case c4 => omega
  case c5 => simp <;> omega
  intro v2 w2 hown2 hgrow2 _
  obtain ⟨va, vc, rfl⟩ := own_slice hown2
  obtain ⟨W1, hW1⟩ : ∃ W, ((w.alloc (.cells #[.int .i64 0, .slice none 0 0] 30)).alloc (.cells #[.int .i64 (1 + (m0 : Int)), .slice none 0 0] 30)) = W := ⟨_, rfl⟩
  have hx12 : Ext W1 w2 := by subst hW1; exact Below.grown ((Ext.refl _).alloc _) hgrow2 ((Ext.refl _).alloc _).size (by intro k hk; simp [Value.ownBlock] at hk)
  have hxw : Ext w W1 := by subst hW1; exact ((Ext.refl w).alloc _).alloc _
  have hs1 : W1.heap.size = B0 + 2 := by subst hW1 hB0; simp
  have a0 : w2.cell? ⟨B0, 0, none⟩ = some (.int .i64 0) := hx12.reads (by subst hW1 hB0; go_simp)
  have a1 : w2.cell? ⟨B0, 1, none⟩ = some (.slice none 0 0) := hx12.reads (by subst hW1 hB0; go_simp)
  have f0 : w2.frozen? ⟨B0, 0, none⟩ = false := hx12.free (v := .int .i64 0) (by subst hW1 hB0; go_simp) (by subst hW1 hB0; go_simp)
  have f1 : w2.frozen? ⟨B0, 1, none⟩ = false := hx12.free (v := .slice none 0 0) (by subst hW1 hB0; go_simp) (by subst hW1 hB0; go_simp)
  have p0 : w2.cell? ⟨B0 + 1, 0, none⟩ = some (.int .i64 (1 + (m0 : Int))) := hx12.reads (by subst hW1 hB0; go_simp)
  have p1 : w2.cell? ⟨B0 + 1, 1, none⟩ = some (.slice none 0 0) := hx12.reads (by subst hW1 hB0; go_simp)
  have g1 : w2.frozen? ⟨B0 + 1, 1, none⟩ = false := hx12.free (v := .slice none 0 0) (by subst hW1 hB0; go_simp) (by subst hW1 hB0; go_simp)
  have hsz2 : B0 + 2 ≤ w2.heap.size := by have := hx12.size; omega
  have hB0H := Lib.hid hB0
  have hx02 := Lib.hid (hxw.trans hx12)
  clear hgrow2 hx12 hxw hs1 hW1 hB0
  go_wp2
  obtain ⟨W3, hW3⟩ : ∃ W, w2.setCell ⟨B0 + 1, 1, none⟩ (.slice va (0 + 1) vc) = W := ⟨_, rfl⟩
  have hP0 : PolS w (1 + m0) B0 0 (.slice va (0 + 1) vc) [⟨[], 1000, 5, 1 + m3⟩] W3 := by
    rw [← hW3]
    exact PolS.put a0 a1 f0 f1 (by rw [p0]; simp) p1 g1 hown2 (ok0 m3 hm3l) (Nat.le_refl _) hx02.out hsz2 hB0H.out
  try rw [hW3]
  clear hW3 a0 a1 f0 f1 p0 p1 g1 hown2 hx02 hsz2
  generalize [(⟨[], 1000, 5, 1 + m3⟩ : Rl)] = rs0 at *
  generalize Value.slice va (0 + 1) vc = vv0 at *
  have hMl : 1 ≤ 1 + m0 ∧ 1 + m0 ≤ 50 := by omega
  generalize 1 + m0 = M at *
  go_loopw [6] (fun i wr => ∃ (k : Nat) (v : Value) (rs : List Rl), k ≤ 12 ∧ k ≤ len ∧ i = .int .i64 k ∧ Hid (PolS w M B0 k v rs wr)) (fun i _ => 12 - (intOf i).toNat)
  case atStart => exact ⟨0, vv0, rs0, Nat.zero_le _, Nat.zero_le _, rfl, Lib.hid hP0⟩
  case round =>
    clear hP0
    obtain ⟨k, v, rs, hk12, hkl, rfl, hP⟩ := hrel
    by_cases hcnt : k < len ∧ k < 12
    · obtain ⟨hlt, h12⟩ := hcnt
      have hlt' : (k : Int) < (len : Int) := by omega
      have h12' : (k : Int) < 12 := by omega
      obtain ⟨b, off, rfl, hc⟩ := hNH.out.resolve_left (by omega)
      obtain ⟨pa, pc, pl, E, Bu, K, ⟨c0, c1, c2, c3⟩, hpb, hpl, hE, hBu, hK⟩ := hc k hlt
      have d0 := hP.out.x.reads c0
      have d1 := hP.out.x.reads c1
      have d2 := hP.out.x.reads c2
      have d3 := hP.out.x.reads c3
      have hpb' := hpb.ext hP.out.x
      clear c0 c1 c2 c3 hpb hc
      have hKy := fun W (h : Ext wr W) => lKey pa pc pl hpl W (hpb'.ext h)
      obtain ⟨K3, hK3⟩ : ∃ x, K % 3 = x := ⟨_, rfl⟩
      have hK3l : K3 < 3 := by rw [← hK3]; exact Nat.mod_lt _ (by omega)
      have q1 := Lib.hid (show IntKind.u64.wrap (E : Int) = (E : Int) by rw [IntKind.wrap_u64]; omega)
      have q2 := Lib.hid (show IntKind.u64.wrap (1 + (E : Int)) = ((1 + E : Nat) : Int) by rw [IntKind.wrap_u64]; omega)
      have q3 := Lib.hid (show IntKind.u64.wrap (Bu : Int) = (Bu : Int) by rw [IntKind.wrap_u64]; omega)
      have q4 := Lib.hid (show IntKind.u64.wrap (1 + (Bu : Int)) = ((1 + Bu : Nat) : Int) by rw [IntKind.wrap_u64]; omega)
      have q5 := Lib.hid (show (K : Int).tmod 3 = (K3 : Int) by rw [← hK3, Int.tmod_eq_emod_of_nonneg (by omega)]; simp)
      have q6 := Lib.hid (show IntKind.u8.wrap (1 + (K3 : Int)) = ((1 + K3 : Nat) : Int) by rw [IntKind.wrap_u8]; omega)
      have q7 := Lib.hid (show IntKind.u8.wrap (K3 : Int) = (K3 : Int) by rw [IntKind.wrap_u8]; omega)
      clear hK3 hpb'
      go_wp2
      go_cut [7] from 25 to 112 (fun s7 wx => ∃ (X : Nat) (S : ByteArray), s7 = .pointer (some ⟨X, 0, none⟩) ∧ BoxR wx X S (1 + E) (1 + Bu) (1 + K3) ∧ Ext wr wx ∧ kRight (bs S) = true ∧ S.size ≤ 12 ∧ wr.heap.size ≤ X)
      case first =>
        have l0 : ∀ w', Ext wr w' → w'.cell? ⟨b, off + k * 4, none⟩ = some (.slice pa pl.length pc) := fun w' h => h.reads d0
        have l1 : ∀ w', Ext wr w' → w'.cell? ⟨b, off + k * 4 + 1, none⟩ = some (.int .u32 E) := fun w' h => h.reads d1
        have l2 : ∀ w', Ext wr w' → w'.cell? ⟨b, off + k * 4 + 2, none⟩ = some (.int .u16 Bu) := fun w' h => h.reads d2
        have l3 : ∀ w', Ext wr w' → w'.cell? ⟨b, off + k * 4 + 3, none⟩ = some (.int .u8 K) := fun w' h => h.reads d3
        have hKy' : ∀ w', Ext wr w' → Calls Tryz.prog 7 #[.slice pa pl.length pc] w' fun e w'' => (∃ S : ByteArray, e = .returned (.string S) ∧ Hid (kRight (bs S) = true ∧ S.size ≤ 12)) ∧ Ext wr w'' ∧ Ext w' w'' := fun w' h => (hKy w' h).mono fun e w'' ⟨S, h1, h2, h3, h4⟩ => ⟨⟨S, h1, Lib.hid ⟨h2, h3⟩⟩, h.trans h4, h4⟩
        have r1 := q1.out
        have r2 := q2.out
        have r3 := q3.out
        have r4 := q4.out
        have r5 := q5.out
        have r6 := q6.out
        have r7 := q7.out
        have hst : Ext wr wr := Ext.refl wr
        clear d0 d1 d2 d3 hKy
        go_region_held3 (Ext wr) (first | assumption | exact Ext.drew (Ext.refl _) | (repeat (first | assumption | exact Ext.refl _ | apply Ext.drew | apply Ext.alloc | refine Ext.setCell ?_ (Nat.le_refl _) _))) (first
          | (go_at_call 7; refine (hKy' _ (by assumption)).mono ?_; rintro e w9 ⟨⟨S, rfl, hS⟩, hb, hx⟩; have hn9 : BoxR w9 wr.heap.size ⟨#[]⟩ 0 0 0 := newRb hx; have hn9H := Lib.hid hn9; obtain ⟨⟨n0, n1, n2, n3⟩, m0', m1', m2', m3'⟩ := hn9; clear hx)
          | (go_at_call 7; refine (hKy' _ (by assumption)).mono ?_; rintro e w9 ⟨⟨S, rfl, hS⟩, hb, hx⟩; clear hx))
        all_goals
          go_wp2_with fail
          go_meet
          first
            | exact ⟨_, S, rfl, newRa w9 S (1 + E) (1 + Bu) (1 + K3) _, hb.alloc _, hS.out.1, hS.out.2, hb.size⟩
            | exact ⟨_, S, rfl, hn9H.out.sets S (1 + E) (1 + Bu) (1 + K3), by assumption, hS.out.1, hS.out.2, Nat.le_refl _⟩
      case rest =>
        obtain ⟨X, S, rfl, hbx, hx, hSk, hSs, hXl⟩ := hcut
        have hbl : b < wr.heap.size := World.block_lt_of_cell? wr _ d1
        have e1 := hx.reads d1
        have e2 := hx.reads d2
        have e3 := hx.reads d3
        have hPw := Lib.hid (hP.out.ext hx)
        have hSH := Lib.hid (And.intro hSk hSs)
        clear d0 d1 d2 d3 hKy hPw hSk hSs
        go_upto_if 68 with (fail)
        go_cut [] from 63 to 112 (fun wx => ∃ (ev bu : Nat), BoxR wx X S ev bu (1 + K3) ∧ (1 ≤ ev ∧ ev ≤ 4294967296 ∧ 1 ≤ bu ∧ bu ≤ 65536) ∧ Ext wr wx)
        case first =>
          obtain ⟨⟨n0, n1, n2, n3⟩, z0, z1, z2, z3⟩ := hbx
          have hbxH := Lib.hid (show BoxR wc X S (1 + E) (1 + Bu) (1 + K3) from ⟨⟨n0, n1, n2, n3⟩, z0, z1, z2, z3⟩)
          have hXb : X ≠ b := by omega
          have hbX : ¬ b = X := by omega
          by_cases hK200 : 200 ≤ K
          · have hK2 : 200 ≤ (K : Int) := by omega
            have u1 : E % 50 < 50 := Nat.mod_lt _ (by omega)
            have u2 : Bu % 9 < 9 := Nat.mod_lt _ (by omega)
            go_wp2_with fail
            go_meet
            exact ⟨1 + E % 50, 1 + Bu % 9, hbxH.out.set12 _ _, ⟨by omega, by omega, by omega, by omega⟩, (hx.setCell hXl _).setCell hXl _⟩
          · have hK2 : ¬ 200 ≤ (K : Int) := by omega
            go_wp2_with fail
            go_meet
            exact ⟨1 + E, 1 + Bu, hbxH.out, ⟨by omega, by omega, by omega, by omega⟩, hx⟩
        case rest =>
          clear hbx hx e1 e2 e3 hbl
          obtain ⟨ev, bu, hbx, hev, hx⟩ := hcut
          have hPc := Lib.hid (hP.out.ext hx)
          have hbxH := Lib.hid hbx
          have hxH := Lib.hid hx
          obtain ⟨va, vc, rfl⟩ := own_slice hP.out.own
          have hXc : X < wc.heap.size := World.block_lt_of_cell? _ _ hbx.1.1
          have hX2 : ¬ X = B0 + 1 := by have := hP.out.sz; omega
          have hrn : rs.length ≤ 13 := by have := hP.out.len; omega
          clear hP hbx hx hXl
          go_wp2
          go_loopw [8, 9] (fun bv iv wq => ∃ (i : Nat) (bb : Bool), i ≤ rs.length ∧ iv = .int .i64 i ∧ bv = .bool bb ∧ Hid (bb = !hasP (rs.take i) (bs S)) ∧ Ext wc wq) (fun _ iv _ => rs.length - (intOf iv).toNat)
          case atStart => exact ⟨0, true, Nat.zero_le _, rfl, rfl, Lib.hid rfl, Ext.refl _⟩
          case round =>
            obtain ⟨i, bb, hil, rfl, rfl, hB, hxq⟩ := hrel
            have hPq := Lib.hid (hPc.out.ext hxq)
            have hbq := Lib.hid (hbxH.out.ext hxq)
            have p1 := hPq.out.p1
            by_cases hlt : i < rs.length
            · have hne : rs ≠ [] := fun e => by rw [e] at hlt; simp at hlt
              have hRA : RulesAt wr (.slice va rs.length vc) rs := ⟨fun h => absurd h hne, owns_mono hPq.out.own (Nat.zero_le _)⟩
              obtain ⟨a', c', he', hf'⟩ := hRA.form
              obtain ⟨g, e2, -, hgc, hgm⟩ := hf' hne
              obtain ⟨rfl, rfl⟩ : va = a' ∧ vc = c' := by injection he' with h1 h2 h3; exact ⟨h1, h3⟩
              subst e2
              have c0 := (RulesAt.cells hRA hlt).1
              have x0 := hbq.out.1.1
              have hSe := strEq (rs.getD i Rl0).pre (bs S)
              rw [← strOf_bs0] at hSe
              have hT := Lib.hid (show hasP (rs.take (i + 1)) (bs S) = (hasP (rs.take i) (bs S) || decide ((rs.getD i Rl0).pre = bs S)) by
                unfold hasP
                rw [take_snocR rs i hlt, List.any_append]
                simp)
              generalize hD : decide ((rs.getD i Rl0).pre = bs S) = D at *
              generalize strOf (rs.getD i Rl0).pre = S1 at *
              have m1 : ∀ w', Ext wr w' → w'.cell? ⟨B0 + 1, 1, none⟩ = some (.slice (some ⟨g, 0, none⟩) rs.length vc) := fun w' h => h.reads p1
              have m2 : ∀ w', Ext wr w' → w'.cell? ⟨g, i * 4, none⟩ = some (.string S1) := fun w' h => h.reads c0
              have m3 : ∀ w', Ext wr w' → w'.cell? ⟨X, 0, none⟩ = some (.string S) := fun w' h => h.reads x0
              have hst : Ext wr wr := Ext.refl wr
              have hxqH := Lib.hid hxq
              clear hRA he' hf' hxq hD
              cases bb
              · clear m1 m2 m3 hst
                go_wp2
                go_region
                all_goals
                  go_wp2
                  go_roundw
                case rel => exact ⟨i + 1, false, by omega, by go_num, rfl, Lib.hid (by rw [hT.out]; have := hB.out; revert this; cases hasP (rs.take i) (bs S) <;> simp), hxqH.out.drew⟩
                case measure => simp [intOf]; omega
              · clear p1 c0 x0
                go_wp2
                cases D
                all_goals
                  go_region_held3 (Ext wr) (first | assumption | exact Ext.drew (Ext.refl _)) (fail)
                  go_wp2
                  go_roundw
                case rel => exact ⟨i + 1, _, by omega, by go_num, rfl, Lib.hid (by rw [hT.out]; have := hB.out; revert this; cases hasP (rs.take i) (bs S) <;> simp), hxqH.out.drew⟩
                case measure => simp [intOf]; omega
                case rel => exact ⟨i + 1, _, by omega, by go_num, rfl, Lib.hid (by rw [hT.out]; have := hB.out; revert this; cases hasP (rs.take i) (bs S) <;> simp), hxqH.out.drew⟩
                case measure => simp [intOf]; omega
            · obtain rfl : i = rs.length := by omega
              have hB2 : bb = !hasP rs (bs S) := by have := hB.out; rwa [List.take_length] at this
              have hP9 := hPq.out
              cases bb
              · clear hB2 hP9
                go_wp2
                go_roundw
                case rel => exact ⟨k + 1, .slice va rs.length vc, rs, by omega, by omega, by go_num, Lib.hid hPq.out.up⟩
                case measure => simp [intOf]; omega
              · have hno : Hid (hasP rs (bs S) = false) := Lib.hid (by revert hB2; cases hasP rs (bs S) <;> simp)
                obtain ⟨⟨x0, x1, x2, x3⟩, -⟩ := hbq.out
                have hSb : strOf (bs S) = S := (strOf_bs0 S).symm
                have hSbH := Lib.hid hSb
                have hownH := Lib.hid hP9.own
                have hszH := Lib.hid hP9.sz
                clear hB2 hP9 hxq hSb
                go_wp2_with (at_builtin; refine wpList_append_own _ rfl _ _ 28 rfl (B0 + 2) 47 i0 _ 4 40 Tryz.underlying28 hi hz0 hz1 hz2 rfl (by decide) _ rs.length (rlCells rs) rfl (hownH.out.alloc _) ⟨wr.heap.size, 0, none⟩ 1 1 (rlCells [⟨bs S, ev, bu, 1 + K3⟩]) rfl rfl ?c1 ?c2 ?c3 ?c4 ?c5 ?_)
                case c1 =>
                  intro j u h
                  have h2 := cells_new wr (rlCells [⟨bs S, ev, bu, 1 + K3⟩]) (rlCells [⟨bs S, ev, bu, 1 + K3⟩]).toArray 47 rfl j u h
                  rw [← h2]
                  simp [rlCells, hSbH.out]
                case c2 => exact rlCells_one _
                case c3 => unfold maxLen; omega
                case c4 => omega
                case c5 => have := hszH.out; simp; omega
                intro v4 w4 hown4 hgrow4 _
                have hbt : But (fun x => (Value.slice va rs.length vc).ownBlock = some x) wr w4 := (But.of_ext ((Ext.refl wr).alloc _)).grown hgrow4 (fun x hx => hx)
                have hge : ∀ x, (Value.slice va rs.length vc).ownBlock = some x → B0 + 2 ≤ x := fun x hx => (hownH.out.lt x hx).1
                have n0 : ¬ (Value.slice va rs.length vc).ownBlock = some B0 := fun h => by have := hge _ h; omega
                have n1 : ¬ (Value.slice va rs.length vc).ownBlock = some (B0 + 1) := fun h => by have := hge _ h; omega
                have hPn : Hid (∀ W5, w4.setCell ⟨B0 + 1, 1, none⟩ v4 = W5 → PolS w M B0 (k + 1) v4 (rs ++ [⟨bs S, ev, bu, 1 + K3⟩]) W5) := Lib.hid (by
                  intro W5 hW5
                  rw [← hW5]
                  have P := hPq.out
                  refine PolS.put (hbt.cell P.a0 n0) (hbt.cell P.a1 n0) (hbt.free P.a0 n0 P.f0) (hbt.free P.a1 n0 P.f1) (hbt.cell P.p0 n1) (hbt.cell P.p1 n1) (hbt.free P.p1 n1 P.g1) ?_ ?_ ?_ ?_ (Nat.le_trans P.sz hbt.size) P.bw
                  · rw [rlCells_app, List.length_append]; exact hown4
                  · refine P.ok.snoc (okR_of (bs S) ev bu (1 + K3) (.inr hSH.out.1) hev.1 hev.2.1 hev.2.2.1 hev.2.2.2 (by omega) (by omega)) ?_ hno.out
                    show (bs S).length ≤ 100
                    rw [bs_length]; have := hSH.out.2; omega
                  · rw [List.length_append]; have := P.len; simp; omega
                  · exact Ext.ofBut ((But.of_ext (S := fun _ => False) P.x).fresh hbt (fun i hi => by have := hge i hi; have := P.bw; omega)))
                have q1 := hbt.cell hPq.out.p1 n1
                have q2 := hbt.free hPq.out.p1 n1 hPq.out.g1
                obtain ⟨va4, vc4, rfl⟩ := own_slice hown4
                clear hown4 hgrow4 hbt hge n0 n1 x0 x1 x2 x3 p1 hownH
                go_wp2
                go_roundw
                case rel => exact ⟨k + 1, _, _, by omega, by omega, by go_num, Lib.hid (hPn.out _ rfl)⟩
                case measure => simp [intOf]; omega
    · have hdec : ((k : Int) < (len : Int)) ∧ ¬ ((k : Int) < 12) ∨ ¬ ((k : Int) < (len : Int)) := by omega
      obtain ⟨a0, a1, f0, f1, p0, p1, g1, own, ok, hlen, hx, hsz, hbw⟩ := hP.out
      obtain ⟨va, vc, rfl⟩ := own_slice own
      have hne : rs ≠ [] := fun e => by have := ok.dft; rw [e] at this; cases this
      have hend : Hid (∀ W5, (wr.setCell ⟨B0, 0, none⟩ (.int .i64 M)).setCell ⟨B0, 1, none⟩ (.slice va rs.length vc) = W5 → (W5.cell? ⟨B0, 0, none⟩ = some (.int .i64 M) ∧ W5.cell? ⟨B0, 1, none⟩ = some (.slice va rs.length vc)) ∧ RulesAt W5 (.slice va rs.length vc) rs ∧ Ext w W5) := Lib.hid (by
        intro W5 hW5
        have hb : But (fun x => x = B0) wr W5 := by rw [← hW5]; exact ((But.refl (fun x => x = B0) wr).setCell rfl _).setCell rfl _
        refine ⟨?_, ⟨fun h => absurd h hne, owns_mono (hb.owns own (fun x hx h => by have := (own.lt x hx).1; omega)) (Nat.zero_le _)⟩, hx.set1 hb (by omega)⟩
        subst hW5
        exact ⟨by go_simp, by go_simp⟩)
      have hfin := Lib.hid (And.intro ok hlen)
      clear own ok hlen hx hsz hbw hP hne hNH
      rcases hdec with ⟨h1, h2⟩ | h1
      all_goals
        clear hcnt
        go_wp2
        obtain ⟨⟨y0, y1⟩, hRA, hxf⟩ := hend.out _ rfl
        exact bodyPost_ret (v := plV M (.slice va rs.length vc)) (by simp [results, Tryz.results6, go_sem, plV, y0, y1]) rfl ⟨M, .slice va rs.length vc, rfl, rs, hRA, hMl.1, hMl.2, by have := hfin.out.2; omega, hfin.out.1, hxf⟩

end Go.Proofs.YtdgcgpapcbjfhaaGreatDoor

/- Rows of bytes and of numbers of rules that came in. -/
namespace Go.Proofs.YtdgcgpapcbjfhaaGreatDoor
open Go.RowKit Go.Deep Go.WideShapes Go.ChangeShapes

theorem cells8 : Tryz.prog.cellsOf 5 = 1 := by kernel_rfl
theorem cellsN : Tryz.prog.cellsOf 50 = 4 := by kernel_rfl

theorem open_row8 {H : Type} {enc : TypeId × Value → H} {w : World} {base : Nat} {spare : Nat → Bool} {held : Bool} {fuel : Nat} {cs : List Value} {x : DataW H × List MemPlace}
    (h : DataW.trod enc Tryz.prog w base spare held fuel 22 cs = some x) : ∃ (a : Option Addr) (cap : Nat) (l : List UInt8), cs = [.slice a l.length cap] ∧ l.length ≤ cap ∧ cap ≤ maxLen ∧ IsBytes w a l := by
  rcases open_ints Tryz.underlying22 Tryz.underlying5 cells8 h with ⟨hcs, hx⟩ | ⟨a, len, cap, zs, hcs, _, hl, hm, hz, hx, hcell, hwz⟩
  · exact ⟨none, 0, [], hcs, Nat.le_refl _, Nat.zero_le _, .inl rfl⟩
  · have hzl : len ≤ zs.length := by rw [hz]; split <;> omega
    have hlen : ((zs.take len).map fun n => UInt8.ofNat n.toNat).length = len := by simp; omega
    refine ⟨some a, cap, (zs.take len).map fun n => UInt8.ofNat n.toNat, by rw [hlen]; exact hcs, by rw [hlen]; exact hl, hm, ?_⟩
    by_cases h0 : len = 0
    · exact .inl (List.eq_nil_of_length_eq_zero (by rw [hlen]; exact h0))
    obtain ⟨ab, ao, spot⟩ := a
    have hspot : spot = none := by simpa [Addr.add] using World.cell?_spot (hcell 0 (by omega))
    subst hspot
    refine .inr ⟨ab, ao, rfl, fun j hj => ?_⟩
    rw [hlen] at hj
    have hcj := hcell j (by omega)
    rw [Addr.add_lit] at hcj
    rw [hcj]
    have hb : 0 ≤ zs.getD j 0 ∧ zs.getD j 0 ≤ 255 := range_u8 hwz j
    have e : zs.getD j 0 = zs[j]'(by omega) := by simp [List.getD, List.getElem?_eq_getElem (show j < zs.length by omega)]
    rw [e] at hb ⊢
    rw [getD_lt _ _ _ (by rw [hlen]; exact hj)]
    simp only [List.getElem_map, List.getElem_take]
    congr 2
    simp only [UInt8.toNat_ofNat']
    omega

theorem fieldsN : Tryz.prog.underlying 50 = some (.struct (Tryz.prog.fieldsOf 50)) := by kernel_rfl
theorem fN0 : ((Tryz.prog.fieldsOf 50)[0]?).map (fun f => (f.offset, f.type)) = some (0, 22) := by kernel_rfl
theorem fN1 : ((Tryz.prog.fieldsOf 50)[1]?).map (fun f => (f.offset, f.type)) = some (1, 48) := by kernel_rfl
theorem fN2 : ((Tryz.prog.fieldsOf 50)[2]?).map (fun f => (f.offset, f.type)) = some (2, 23) := by kernel_rfl
theorem fN3 : ((Tryz.prog.fieldsOf 50)[3]?).map (fun f => (f.offset, f.type)) = some (3, 5) := by kernel_rfl
theorem cellsB : Tryz.prog.cellsOf 22 = 1 := by kernel_rfl
theorem cells32 : Tryz.prog.cellsOf 48 = 1 := by kernel_rfl
theorem cells16 : Tryz.prog.cellsOf 23 = 1 := by kernel_rfl

theorem open_nums {H : Type} {enc : TypeId × Value → H} {w : World} {base : Nat} {spare : Nat → Bool} {held : Bool} {fuel : Nat} {a : Option Addr} {len cap : Nat} {x : DataW H × List MemPlace}
    (h : DataW.trod enc Tryz.prog w base spare held fuel 24 [.slice a len cap] = some x) : IsNums w a len := by
  rcases open_slice Tryz.underlying24 h with ⟨hcs, _⟩ | ⟨a', len', cap', m, n, D, Pl, hcs, _, hl, hm, hmm, _, hx⟩
  · simp at hcs
    obtain ⟨rfl, rfl, rfl⟩ := hcs
    exact ⟨Nat.zero_le _, .inl rfl⟩
  · simp at hcs
    obtain ⟨rfl, rfl, rfl⟩ := hcs
    refine ⟨Nat.le_trans hl hm, ?_⟩
    by_cases h0 : len = 0
    · exact .inl h0
    have hlm : len ≤ m := by rw [hmm]; split <;> omega
    have each : ∀ i, i < len → ∃ (pa : Option Addr) (pc : Nat) (pl : List UInt8) (E B K : Nat),
        (w.cell? ((a'.add (i * 4)).add 0) = some (.slice pa pl.length pc) ∧ w.cell? ((a'.add (i * 4)).add 1) = some (.int .u32 E) ∧ w.cell? ((a'.add (i * 4)).add 2) = some (.int .u16 B) ∧ w.cell? ((a'.add (i * 4)).add 3) = some (.int .u8 K)) ∧ IsBytes w pa pl ∧ pl.length ≤ maxLen ∧ E ≤ 4294967295 ∧ B ≤ 65535 ∧ K ≤ 255 := by
      intro i hi
      obtain ⟨cs', h1, h2⟩ := hx i (by omega)
      rw [cellsN] at h1
      obtain ⟨_, hlen, hcell⟩ := World.cells?_some h1
      obtain ⟨xs, n', _, _, _, hxl, hf⟩ := DataW.trod_struct fieldsN h2
      have one : ∀ j t, ((Tryz.prog.fieldsOf 50)[j]?).map (fun f => (f.offset, f.type)) = some (j, t) → Tryz.prog.cellsOf t = 1 → j < 4 → ∃ y u, DataW.trod enc Tryz.prog w base spare held n' t [u] = some y ∧ w.cell? ((a'.add (i * 4)).add j) = some u := by
        intro j t hj hc hj4
        obtain ⟨f, hfj, hft⟩ := Option.map_eq_some_iff.1 hj
        have ho : f.offset = j := congrArg Prod.fst hft
        have ht : f.type = t := congrArg Prod.snd hft
        have g := hf j f hfj
        rw [ho, ht, hc] at g
        have hjx : j < xs.length := by rw [hxl]; exact (Array.getElem?_eq_some_iff.1 hfj).1
        rw [List.getElem?_eq_getElem hjx] at g
        have hj' : j < cs'.length := by omega
        have h3 : (cs'.drop j).take 1 = [cs'[j]] := by
          rw [List.drop_eq_getElem_cons hj', List.take_succ_cons, List.take_zero]
        rw [h3] at g
        exact ⟨_, cs'[j], g, by rw [hcell j (by omega), List.getElem?_eq_getElem hj']⟩
      obtain ⟨y0, u0, t0, k0⟩ := one 0 _ fN0 cellsB (by omega)
      obtain ⟨y1, u1, t1, k1⟩ := one 1 _ fN1 cells32 (by omega)
      obtain ⟨y2, u2, t2, k2⟩ := one 2 _ fN2 cells16 (by omega)
      obtain ⟨y3, u3, t3, k3⟩ := one 3 _ fN3 cells8 (by omega)
      obtain ⟨pa, pc, pl, e0, p1, p2, p3⟩ := open_row8 t0
      obtain ⟨z1, e1, _, w1⟩ := DataW.trod_int Tryz.underlying48 t1
      obtain ⟨z2, e2, _, w2⟩ := DataW.trod_int Tryz.underlying23 t2
      obtain ⟨z3, e3, _, w3⟩ := DataW.trod_int Tryz.underlying5 t3
      simp at e0 e1 e2 e3
      subst e0 e1 e2 e3
      have b1 := bounds_u32 w1
      have b2 := bounds_u16 w2
      have b3 := bounds_u8 w3
      refine ⟨pa, pc, pl, z1.toNat, z2.toNat, z3.toNat, ⟨k0, ?_, ?_, ?_⟩, p3, Nat.le_trans p1 p2, by omega, by omega, by omega⟩
      · rw [k1, Int.toNat_of_nonneg (by omega)]
      · rw [k2, Int.toNat_of_nonneg (by omega)]
      · rw [k3, Int.toNat_of_nonneg (by omega)]
    obtain ⟨b, off, spot⟩ := a'
    have hspot : spot = none := by
      obtain ⟨pa, pc, pl, E, B, K, ⟨h9, -⟩, -⟩ := each 0 (by omega)
      simpa [Addr.add] using World.cell?_spot h9
    subst hspot
    refine .inr ⟨b, off, rfl, fun i hi => ?_⟩
    obtain ⟨pa, pc, pl, E, B, K, ⟨k0, k1, k2, k3⟩, hr⟩ := each i hi
    rw [add_add, add_plain] at k0 k1 k2 k3
    exact ⟨pa, pc, pl, E, B, K, ⟨k0, k1, k2, k3⟩, hr⟩

end Go.Proofs.YtdgcgpapcbjfhaaGreatDoor
