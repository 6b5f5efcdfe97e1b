/- A table's slot of a key that is there: it is told, or goes. -/
import Derived.Test.YtdgcgpapcbjfhaaGreatDoorJ43TabLook
import Derived.Test.YtdgcgpapcbjfhaaGreatDoorJ35GateT
import Derived.Test.YtdgcgpapcbjfhaaGreatDoorJ07NumMore
import Derived.Test.YtdgcgpapcbjfhaaGreatDoorJ30TreeG
import Derived.RegionTactic
import Derived.Deep.RegionHeld3
import Derived.Deep.Cut
import Derived.StillTailTactics
set_option linter.unusedVariables false
set_option linter.unusedSimpArgs false

/- What holds while a table charges a key. -/
namespace Go.Proofs.YtdgcgpapcbjfhaaGreatDoor
open Go.RowKit

/-- the one or the other -/
def pk {α : Type} (b : Bool) (x y : α) : α := match b with
  | true => x
  | false => y

/-- how slot answers -/
def SlotSays (t : Nat) (mo ck : Int) (mb : Nat) (es : Array MapEntry) (mk : Nat) (k : List UInt8) (r : Rl) (sv : Value) (is : Bool) (w : World) : Prop :=
  ∀ w', Ext w w' → Calls Tryz.prog 122 #[.pointer (some ⟨t, 0, none⟩), .string (strOf k), rlV r] w' fun e w'' => e = .returned (.tuple #[sv, .bool is]) ∧ TabAt w'' t mo ck mb es mk ∧ But (fun k => k = mb) w' w''

theorem says0 (t : Nat) (mo ck : Int) (mb mk : Nat) (k : List UInt8) (r : Rl) (w : World) (hT : TabAt w t mo ck mb #[] mk) : SlotSays t mo ck mb #[] mk k r zslotV false w :=
  fun w' hx => (pSlot0 t mo ck mb mk k r w' (hT.ext hx)).mono fun e w'' h => ⟨h.1, (hT.ext hx).ext h.2, But.of_ext h.2⟩

theorem len_map {w : World} {b mk : Nat} {es : Array MapEntry} (hb : w.heap[b]? = some (.map es mk)) (ty : TypeId) : (Builtin.len_ #[133] ty #[.map (some b)]).run Tryz.prog w = .ok (.int .i64 es.size) w := by
  have hu : Tryz.prog.underlying 133 = some (.map 9 196) := by kernel_rfl
  simp [Builtin.len_, run_underlying hu, MapKept.run_getObj_map hb, Sem.run_bind, Result.andThen, goInt]

/-- no cell of an answer's box is frozen -/
def FreeAns (w : World) (r : Nat) : Prop := w.frozen? ⟨r, 0, none⟩ = false ∧ w.frozen? ⟨r, 1, none⟩ = false ∧ w.frozen? ⟨r, 2, none⟩ = false ∧ w.frozen? ⟨r, 3, none⟩ = false ∧ w.frozen? ⟨r, 4, none⟩ = false ∧ w.frozen? ⟨r, 5, none⟩ = false ∧ w.frozen? ⟨r, 6, none⟩ = false ∧ w.frozen? ⟨r, 7, none⟩ = false ∧ w.frozen? ⟨r, 8, none⟩ = false ∧ w.frozen? ⟨r, 9, none⟩ = false
/-- an answer in its box, not frozen -/
def AnB (w : World) (r : Nat) (a : Ans) : Prop := AnsAt w r a ∧ FreeAns w r
theorem AnB.but {X : Nat → Prop} {w w' : World} {r : Nat} {a : Ans} (h : AnB w r a) (hb : But X w w') (hn : ¬ X r) : AnB w' r a := by
  obtain ⟨⟨a0, a1, a2, a3, a4, a5, a6, a7, a8, a9⟩, b0, b1, b2, b3, b4, b5, b6, b7, b8, b9⟩ := h
  exact ⟨⟨hb.cell a0 hn, hb.cell a1 hn, hb.cell a2 hn, hb.cell a3 hn, hb.cell a4 hn, hb.cell a5 hn, hb.cell a6 hn, hb.cell a7 hn, hb.cell a8 hn, hb.cell a9 hn⟩,
    hb.free a0 hn b0, hb.free a1 hn b1, hb.free a2 hn b2, hb.free a3 hn b3, hb.free a4 hn b4, hb.free a5 hn b5, hb.free a6 hn b6, hb.free a7 hn b7, hb.free a8 hn b8, hb.free a9 hn b9⟩
theorem AnB.lt {w : World} {r : Nat} {a : Ans} (h : AnB w r a) : r < w.heap.size := World.block_lt_of_cell? w _ h.1.1
theorem AnB.ext {w w' : World} {r : Nat} {a : Ans} (h : AnB w r a) (hx : Ext w w') : AnB w' r a := h.but (But.of_ext hx) (Nat.not_le.2 h.lt)
theorem FreeAns.set {w : World} {r : Nat} (h : FreeAns w r) (p : Addr) (v : Value) : FreeAns (w.setCell p v) r := by
  obtain ⟨b0, b1, b2, b3, b4, b5, b6, b7, b8, b9⟩ := h
  refine ⟨?_, ?_, ?_, ?_, ?_, ?_, ?_, ?_, ?_, ?_⟩ <;> (rw [World.frozen?_setCell]; assumption)
theorem AnB.set0 {w : World} {r : Nat} {a : Ans} (h : AnB w r a) (n : Int) : AnB (w.setCell ⟨r, 0, none⟩ (.int .u8 n)) r { a with code := n } := by
  refine ⟨?_, h.2.set _ _⟩
  obtain ⟨a0, a1, a2, a3, a4, a5, a6, a7, a8, a9⟩ := h.1
  exact ⟨by go_simp, by go_simp, by go_simp, by go_simp, by go_simp, by go_simp, by go_simp, by go_simp, by go_simp, by go_simp⟩
theorem AnB.set3 {w : World} {r : Nat} {a : Ans} (h : AnB w r a) (n : Int) : AnB (w.setCell ⟨r, 3, none⟩ (.int .u64 n)) r { a with left := n } := by
  refine ⟨?_, h.2.set _ _⟩
  obtain ⟨a0, a1, a2, a3, a4, a5, a6, a7, a8, a9⟩ := h.1
  exact ⟨by go_simp, by go_simp, by go_simp, by go_simp, by go_simp, by go_simp, by go_simp, by go_simp, by go_simp, by go_simp⟩
theorem AnB.set4 {w : World} {r : Nat} {a : Ans} (h : AnB w r a) (n : Int) : AnB (w.setCell ⟨r, 4, none⟩ (.int .u64 n)) r { a with reset := n } := by
  refine ⟨?_, h.2.set _ _⟩
  obtain ⟨a0, a1, a2, a3, a4, a5, a6, a7, a8, a9⟩ := h.1
  exact ⟨by go_simp, by go_simp, by go_simp, by go_simp, by go_simp, by go_simp, by go_simp, by go_simp, by go_simp, by go_simp⟩
theorem AnB.set5 {w : World} {r : Nat} {a : Ans} (h : AnB w r a) (n : Int) : AnB (w.setCell ⟨r, 5, none⟩ (.int .u64 n)) r { a with after := n } := by
  refine ⟨?_, h.2.set _ _⟩
  obtain ⟨a0, a1, a2, a3, a4, a5, a6, a7, a8, a9⟩ := h.1
  exact ⟨by go_simp, by go_simp, by go_simp, by go_simp, by go_simp, by go_simp, by go_simp, by go_simp, by go_simp, by go_simp⟩
theorem AnB.set6 {w : World} {r : Nat} {a : Ans} (h : AnB w r a) (n : Int) : AnB (w.setCell ⟨r, 6, none⟩ (.int .u64 n)) r { a with nanos := n } := by
  refine ⟨?_, h.2.set _ _⟩
  obtain ⟨a0, a1, a2, a3, a4, a5, a6, a7, a8, a9⟩ := h.1
  exact ⟨by go_simp, by go_simp, by go_simp, by go_simp, by go_simp, by go_simp, by go_simp, by go_simp, by go_simp, by go_simp⟩
theorem AnB.set7 {w : World} {r : Nat} {a : Ans} (h : AnB w r a) (n : Bool) : AnB (w.setCell ⟨r, 7, none⟩ (.bool n)) r { a with retry := n } := by
  refine ⟨?_, h.2.set _ _⟩
  obtain ⟨a0, a1, a2, a3, a4, a5, a6, a7, a8, a9⟩ := h.1
  exact ⟨by go_simp, by go_simp, by go_simp, by go_simp, by go_simp, by go_simp, by go_simp, by go_simp, by go_simp, by go_simp⟩

/-- a state in three cells -/
def St3 (w : World) (b x y z : Nat) (K A B : Int) : Prop := (w.cell? ⟨b, x, none⟩ = some (.int .u8 K) ∧ w.cell? ⟨b, y, none⟩ = some (.int .u64 A) ∧ w.cell? ⟨b, z, none⟩ = some (.int .u64 B)) ∧ w.frozen? ⟨b, x, none⟩ = false ∧ w.frozen? ⟨b, y, none⟩ = false ∧ w.frozen? ⟨b, z, none⟩ = false
theorem St3.but {X : Nat → Prop} {w w' : World} {b x y z : Nat} {K A B : Int} (h : St3 w b x y z K A B) (hb : But X w w') (hn : ¬ X b) : St3 w' b x y z K A B := by
  obtain ⟨⟨a0, a1, a2⟩, b0, b1, b2⟩ := h
  exact ⟨⟨hb.cell a0 hn, hb.cell a1 hn, hb.cell a2 hn⟩, hb.free a0 hn b0, hb.free a1 hn b1, hb.free a2 hn b2⟩
theorem St3.lt {w : World} {b x y z : Nat} {K A B : Int} (h : St3 w b x y z K A B) : b < w.heap.size := World.block_lt_of_cell? w _ h.1.1
theorem St3.ext {w w' : World} {b x y z : Nat} {K A B : Int} (h : St3 w b x y z K A B) (hx : Ext w w') : St3 w' b x y z K A B := h.but (But.of_ext hx) (Nat.not_le.2 h.lt)

/-- what holds all along: w0 the world behind the slot's call, Bx the rule's box, Bx + 1 the result's -/
structure ChS (w0 : World) (t : Nat) (mo ck : Int) (mb : Nat) (es : Array MapEntry) (mk Bx : Nat) (r : Rl) (wx : World) : Prop where
  but : But (fun k => k = mb) w0 wx
  tab : TabAt wx t mo ck mb es mk
  rb : RuleBox wx Bx r
  za : ZeroAns wx (Bx + 1)
  lt : t < w0.heap.size ∧ mb < w0.heap.size ∧ Bx + 1 < w0.heap.size
  ne : Bx ≠ mb ∧ Bx + 1 ≠ mb
theorem ChS.ext {w0 : World} {t : Nat} {mo ck : Int} {mb : Nat} {es : Array MapEntry} {mk Bx : Nat} {r : Rl} {wx wy : World} (h : ChS w0 t mo ck mb es mk Bx r wx) (hx : Ext wx wy) : ChS w0 t mo ck mb es mk Bx r wy :=
  ⟨h.but.trans (But.of_ext hx), h.tab.ext hx, h.rb.but (But.of_ext hx) (Nat.not_le.2 (World.block_lt_of_cell? wx _ h.rb.1)), h.za.but (But.of_ext hx) (Nat.not_le.2 (World.block_lt_of_cell? wx _ h.za.1.1)), h.lt, h.ne⟩
theorem ChS.set {w0 : World} {t : Nat} {mo ck : Int} {mb : Nat} {es : Array MapEntry} {mk Bx : Nat} {r : Rl} {wx : World} (h : ChS w0 t mo ck mb es mk Bx r wx) {p : Addr} (hp : w0.heap.size ≤ p.block) (v : Value) : ChS w0 t mo ck mb es mk Bx r (wx.setCell p v) := by
  have hb : But (fun k => k = p.block) wx (wx.setCell p v) := (But.refl (fun k => k = p.block) wx).setCell rfl v
  have hl := h.lt
  exact ⟨h.but.fresh hb (by rintro i rfl; exact hp), h.tab.but hb (by omega) (by omega), h.rb.but hb (by omega), h.za.but hb (by omega), h.lt, h.ne⟩
theorem ChS.put {w0 : World} {t : Nat} {mo ck : Int} {mb : Nat} {es : Array MapEntry} {mk Bx : Nat} {r : Rl} {wx : World} (h : ChS w0 t mo ck mb es mk Bx r wx) (es' : Array MapEntry) (mk' : Nat) : ChS w0 t mo ck mb es' mk' Bx r (putMap wx mb es' mk') := by
  have hb := putMap_but wx mb es' mk'
  have hn := h.tab.ne
  exact ⟨h.but.trans hb, ⟨hb.cell h.tab.c0 hn, hb.cell h.tab.c1 hn, hb.cell h.tab.c2 hn, hb.free h.tab.c1 hn h.tab.f1, putMap_at h.tab.m es' mk'⟩, h.rb.but hb h.ne.1, h.za.but hb h.ne.2, h.lt, h.ne⟩

/-- while the state is laid in the slot's box -/
structure S15 (w0 : World) (t : Nat) (mo ck : Int) (mb : Nat) (es : Array MapEntry) (mk Bx : Nat) (r : Rl) (sb : Nat) (wx : World) : Prop where
  ch : ChS w0 t mo ck mb es mk Bx r wx
  st : ∃ K A B, St3 wx sb 5 6 7 K A B
  sl : w0.heap.size ≤ sb
theorem S15.ext {w0 : World} {t : Nat} {mo ck : Int} {mb : Nat} {es : Array MapEntry} {mk Bx : Nat} {r : Rl} {sb : Nat} {wx wy : World} (h : S15 w0 t mo ck mb es mk Bx r sb wx) (hx : Ext wx wy) : S15 w0 t mo ck mb es mk Bx r sb wy := by
  obtain ⟨K, A, B, h1⟩ := h.st
  exact ⟨h.ch.ext hx, ⟨K, A, B, h1.ext hx⟩, h.sl⟩
theorem S15.drew {w0 : World} {t : Nat} {mo ck : Int} {mb : Nat} {es : Array MapEntry} {mk Bx : Nat} {r : Rl} {sb : Nat} {wx : World} (h : S15 w0 t mo ck mb es mk Bx r sb wx) : S15 w0 t mo ck mb es mk Bx r sb wx.drew := h.ext ((Ext.refl _).drew)
theorem St3.sets {w : World} {b : Nat} {K A B : Int} (h : St3 w b 5 6 7 K A B) (K' A' B' : Int) : St3 (((w.setCell ⟨b, 5, none⟩ (.int .u8 K')).setCell ⟨b, 6, none⟩ (.int .u64 A')).setCell ⟨b, 7, none⟩ (.int .u64 B')) b 5 6 7 K' A' B' := by
  obtain ⟨⟨a0, a1, a2⟩, b0, b1, b2⟩ := h
  refine ⟨⟨by go_simp, by go_simp, by go_simp⟩, ?_, ?_, ?_⟩ <;> (simp only [World.frozen?_setCell]; assumption)
theorem S15.sets {w0 : World} {t : Nat} {mo ck : Int} {mb : Nat} {es : Array MapEntry} {mk Bx : Nat} {r : Rl} {sb : Nat} {wx : World} (h : S15 w0 t mo ck mb es mk Bx r sb wx) (K' A' B' : Int) : S15 w0 t mo ck mb es mk Bx r sb (((wx.setCell ⟨sb, 5, none⟩ (.int .u8 K')).setCell ⟨sb, 6, none⟩ (.int .u64 A')).setCell ⟨sb, 7, none⟩ (.int .u64 B')) := by
  obtain ⟨K, A, B, h1⟩ := h.st
  exact ⟨((h.ch.set h.sl _).set h.sl _).set h.sl _, ⟨_, _, _, h1.sets K' A' B'⟩, h.sl⟩

/-- while it is asked how long to wait: an answer's box ab with code c; the state in the box sb at x y z -/
structure SAns (w0 : World) (t : Nat) (mo ck : Int) (mb : Nat) (es : Array MapEntry) (mk Bx : Nat) (r : Rl) (sb x y z : Nat) (K A B : Int) (ab : Nat) (c : Int) (N : Int → Prop) (wx : World) : Prop where
  ch : ChS w0 t mo ck mb es mk Bx r wx
  st : St3 wx sb x y z K A B
  an : ∃ a, AnB wx ab a ∧ a.code = c ∧ N a.nanos
  al : w0.heap.size ≤ ab
  sn : w0.heap.size ≤ sb
  ne : sb ≠ ab
theorem SAns.ext {w0 : World} {t : Nat} {mo ck : Int} {mb : Nat} {es : Array MapEntry} {mk Bx : Nat} {r : Rl} {sb x y z : Nat} {K A B : Int} {ab : Nat} {c : Int} {N : Int → Prop} {wx wy : World} (h : SAns w0 t mo ck mb es mk Bx r sb x y z K A B ab c N wx) (hx : Ext wx wy) : SAns w0 t mo ck mb es mk Bx r sb x y z K A B ab c N wy := by
  obtain ⟨a, h1, h2⟩ := h.an
  exact ⟨h.ch.ext hx, h.st.ext hx, ⟨a, h1.ext hx, h2⟩, h.al, h.sn, h.ne⟩
theorem SAns.drew {w0 : World} {t : Nat} {mo ck : Int} {mb : Nat} {es : Array MapEntry} {mk Bx : Nat} {r : Rl} {sb x y z : Nat} {K A B : Int} {ab : Nat} {c : Int} {N : Int → Prop} {wx : World} (h : SAns w0 t mo ck mb es mk Bx r sb x y z K A B ab c N wx) : SAns w0 t mo ck mb es mk Bx r sb x y z K A B ab c N wx.drew := h.ext ((Ext.refl _).drew)
theorem SAns.set {w0 : World} {t : Nat} {mo ck : Int} {mb : Nat} {es : Array MapEntry} {mk Bx : Nat} {r : Rl} {sb x y z : Nat} {K A B : Int} {ab : Nat} {c c' : Int} {N N' : Int → Prop} {wx : World} (h : SAns w0 t mo ck mb es mk Bx r sb x y z K A B ab c N wx) {i : Nat} {v : Value} (hs : ∀ a, AnB wx ab a → a.code = c → N a.nanos → ∃ a', AnB (wx.setCell ⟨ab, i, none⟩ v) ab a' ∧ a'.code = c' ∧ N' a'.nanos) : SAns w0 t mo ck mb es mk Bx r sb x y z K A B ab c' N' (wx.setCell ⟨ab, i, none⟩ v) := by
  obtain ⟨a, h1, h2, h3⟩ := h.an
  exact ⟨h.ch.set h.al v, h.st.but ((But.refl (fun k => k = ab) wx).setCell rfl v) h.ne, hs a h1 h2 h3, h.al, h.sn, h.ne⟩
theorem SAns.set0 {w0 : World} {t : Nat} {mo ck : Int} {mb : Nat} {es : Array MapEntry} {mk Bx : Nat} {r : Rl} {sb x y z : Nat} {K A B : Int} {ab : Nat} {c : Int} {N : Int → Prop} {wx : World} (h : SAns w0 t mo ck mb es mk Bx r sb x y z K A B ab c N wx) (n : Int) : SAns w0 t mo ck mb es mk Bx r sb x y z K A B ab n N (wx.setCell ⟨ab, 0, none⟩ (.int .u8 n)) := h.set fun a h1 h2 h3 => ⟨_, h1.set0 n, rfl, h3⟩
theorem SAns.set3 {w0 : World} {t : Nat} {mo ck : Int} {mb : Nat} {es : Array MapEntry} {mk Bx : Nat} {r : Rl} {sb x y z : Nat} {K A B : Int} {ab : Nat} {c : Int} {N : Int → Prop} {wx : World} (h : SAns w0 t mo ck mb es mk Bx r sb x y z K A B ab c N wx) (n : Int) : SAns w0 t mo ck mb es mk Bx r sb x y z K A B ab c N (wx.setCell ⟨ab, 3, none⟩ (.int .u64 n)) := h.set fun a h1 h2 h3 => ⟨_, h1.set3 n, h2, h3⟩
theorem SAns.set4 {w0 : World} {t : Nat} {mo ck : Int} {mb : Nat} {es : Array MapEntry} {mk Bx : Nat} {r : Rl} {sb x y z : Nat} {K A B : Int} {ab : Nat} {c : Int} {N : Int → Prop} {wx : World} (h : SAns w0 t mo ck mb es mk Bx r sb x y z K A B ab c N wx) (n : Int) : SAns w0 t mo ck mb es mk Bx r sb x y z K A B ab c N (wx.setCell ⟨ab, 4, none⟩ (.int .u64 n)) := h.set fun a h1 h2 h3 => ⟨_, h1.set4 n, h2, h3⟩
theorem SAns.set5 {w0 : World} {t : Nat} {mo ck : Int} {mb : Nat} {es : Array MapEntry} {mk Bx : Nat} {r : Rl} {sb x y z : Nat} {K A B : Int} {ab : Nat} {c : Int} {N : Int → Prop} {wx : World} (h : SAns w0 t mo ck mb es mk Bx r sb x y z K A B ab c N wx) (n : Int) : SAns w0 t mo ck mb es mk Bx r sb x y z K A B ab c N (wx.setCell ⟨ab, 5, none⟩ (.int .u64 n)) := h.set fun a h1 h2 h3 => ⟨_, h1.set5 n, h2, h3⟩
theorem SAns.set6 {w0 : World} {t : Nat} {mo ck : Int} {mb : Nat} {es : Array MapEntry} {mk Bx : Nat} {r : Rl} {sb x y z : Nat} {K A B : Int} {ab : Nat} {c : Int} {N N' : Int → Prop} {wx : World} (h : SAns w0 t mo ck mb es mk Bx r sb x y z K A B ab c N wx) (n : Int) (hn : N' n) : SAns w0 t mo ck mb es mk Bx r sb x y z K A B ab c N' (wx.setCell ⟨ab, 6, none⟩ (.int .u64 n)) := h.set fun a h1 h2 h3 => ⟨_, h1.set6 n, h2, hn⟩
theorem SAns.set7 {w0 : World} {t : Nat} {mo ck : Int} {mb : Nat} {es : Array MapEntry} {mk Bx : Nat} {r : Rl} {sb x y z : Nat} {K A B : Int} {ab : Nat} {c : Int} {N : Int → Prop} {wx : World} (h : SAns w0 t mo ck mb es mk Bx r sb x y z K A B ab c N wx) (n : Bool) : SAns w0 t mo ck mb es mk Bx r sb x y z K A B ab c N (wx.setCell ⟨ab, 7, none⟩ (.bool n)) := h.set fun a h1 h2 h3 => ⟨_, h1.set7 n, h2, h3⟩
theorem SAns.mono {w0 : World} {t : Nat} {mo ck : Int} {mb : Nat} {es : Array MapEntry} {mk Bx : Nat} {r : Rl} {sb x y z : Nat} {K A B : Int} {ab : Nat} {c : Int} {N N' : Int → Prop} {wx : World} (h : SAns w0 t mo ck mb es mk Bx r sb x y z K A B ab c N wx) (hN : ∀ n, N n → N' n) : SAns w0 t mo ck mb es mk Bx r sb x y z K A B ab c N' wx := by
  obtain ⟨a, h1, h2, h3⟩ := h.an
  exact ⟨h.ch, h.st, ⟨a, h1, h2, hN _ h3⟩, h.al, h.sn, h.ne⟩
/-- a store into a block that is neither -/
theorem SAns.setn {w0 : World} {t : Nat} {mo ck : Int} {mb : Nat} {es : Array MapEntry} {mk Bx : Nat} {r : Rl} {sb x y z : Nat} {K A B : Int} {ab : Nat} {c : Int} {N : Int → Prop} {wx : World} (h : SAns w0 t mo ck mb es mk Bx r sb x y z K A B ab c N wx) {p : Addr} (hp : w0.heap.size ≤ p.block) (h1 : sb ≠ p.block) (h2 : ab ≠ p.block) (v : Value) : SAns w0 t mo ck mb es mk Bx r sb x y z K A B ab c N (wx.setCell p v) := by
  obtain ⟨a, h3, h4⟩ := h.an
  have hb := (But.refl (fun k => k = p.block) wx).setCell rfl v
  exact ⟨h.ch.set hp v, h.st.but hb h1, ⟨a, h3.but hb h2, h4⟩, h.al, h.sn, h.ne⟩
theorem SAns.put {w0 : World} {t : Nat} {mo ck : Int} {mb : Nat} {es : Array MapEntry} {mk Bx : Nat} {r : Rl} {sb x y z : Nat} {K A B : Int} {ab : Nat} {c : Int} {N : Int → Prop} {wx : World} (h : SAns w0 t mo ck mb es mk Bx r sb x y z K A B ab c N wx) (es' : Array MapEntry) (mk' : Nat) : SAns w0 t mo ck mb es' mk' Bx r sb x y z K A B ab c N (putMap wx mb es' mk') := by
  obtain ⟨a, h3, h4⟩ := h.an
  have hb := putMap_but wx mb es' mk'
  have hl := h.ch.lt
  have hs := h.sn
  have ha := h.al
  exact ⟨h.ch.put es' mk', h.st.but hb (by omega), ⟨a, h3.but hb (by omega), h4⟩, h.al, h.sn, h.ne⟩
theorem SAns.newA {w0 : World} {t : Nat} {mo ck : Int} {mb : Nat} {es : Array MapEntry} {mk Bx : Nat} {r : Rl} {sb x y z : Nat} {K A B : Int} {ab : Nat} {c : Int} {N : Int → Prop} {wx : World} (h : SAns w0 t mo ck mb es mk Bx r sb x y z K A B ab c N wx) (K' A' B' : Int) (ty : TypeId) : SAns w0 t mo ck mb es mk Bx r wx.heap.size 0 1 2 K' A' B' ab c N (wx.alloc (.cells #[.int .u8 K', .int .u64 A', .int .u64 B'] ty)) := by
  have h2 := h.ext ((Ext.refl wx).alloc (.cells #[.int .u8 K', .int .u64 A', .int .u64 B'] ty))
  obtain ⟨a, h3, h4⟩ := h.an
  exact ⟨h2.ch, ⟨⟨by go_simp, by go_simp, by go_simp⟩, by go_simp, by go_simp, by go_simp⟩, h2.an, h.al, h.ch.but.size, fun e => by have := h3.lt; omega⟩
theorem St3.sets0 {w : World} {b : Nat} {K A B : Int} (h : St3 w b 0 1 2 K A B) (K' A' B' : Int) : St3 (((w.setCell ⟨b, 0, none⟩ (.int .u8 K')).setCell ⟨b, 1, none⟩ (.int .u64 A')).setCell ⟨b, 2, none⟩ (.int .u64 B')) b 0 1 2 K' A' B' := by
  obtain ⟨⟨a0, a1, a2⟩, b0, b1, b2⟩ := h
  refine ⟨⟨by go_simp, by go_simp, by go_simp⟩, ?_, ?_, ?_⟩ <;> (simp only [World.frozen?_setCell]; assumption)
theorem SAns.set3n {w0 : World} {t : Nat} {mo ck : Int} {mb : Nat} {es : Array MapEntry} {mk Bx : Nat} {r : Rl} {sb x y z : Nat} {K A B : Int} {ab : Nat} {c : Int} {N : Int → Prop} {wx : World} (h : SAns w0 t mo ck mb es mk Bx r sb x y z K A B ab c N wx) {nb : Nat} (hp : w0.heap.size ≤ nb ∧ sb ≠ nb ∧ ab ≠ nb) (u v q : Value) : SAns w0 t mo ck mb es mk Bx r sb x y z K A B ab c N (((wx.setCell ⟨nb, 0, none⟩ u).setCell ⟨nb, 1, none⟩ v).setCell ⟨nb, 2, none⟩ q) :=
  ((h.setn hp.1 hp.2.1 hp.2.2 u).setn hp.1 hp.2.1 hp.2.2 v).setn hp.1 hp.2.1 hp.2.2 q
theorem SAns.newB {w0 : World} {t : Nat} {mo ck : Int} {mb : Nat} {es : Array MapEntry} {mk Bx : Nat} {r : Rl} {sb x y z : Nat} {K A B : Int} {ab : Nat} {c : Int} {N : Int → Prop} {wx : World} (h : SAns w0 t mo ck mb es mk Bx r sb x y z K A B ab c N wx) {nb : Nat} (hp : w0.heap.size ≤ nb ∧ sb ≠ nb ∧ ab ≠ nb) {K0 A0 B0 : Int} (hs : St3 wx nb 0 1 2 K0 A0 B0) (K' A' B' : Int) : SAns w0 t mo ck mb es mk Bx r nb 0 1 2 K' A' B' ab c N (((wx.setCell ⟨nb, 0, none⟩ (.int .u8 K')).setCell ⟨nb, 1, none⟩ (.int .u64 A')).setCell ⟨nb, 2, none⟩ (.int .u64 B')) := by
  have h2 := h.set3n hp (.int .u8 K') (.int .u64 A') (.int .u64 B')
  exact ⟨h2.ch, hs.sets0 K' A' B', h2.an, h.al, hp.1, fun e => hp.2.2 e.symm⟩
theorem newSt {w w9 : World} {ty : TypeId} (hx : Ext (w.alloc (.cells #[.int .u8 0, .int .u64 0, .int .u64 0] ty)).drew w9) : St3 w9 w.heap.size 0 1 2 0 0 0 :=
  St3.ext ⟨⟨by go_simp, by go_simp, by go_simp⟩, by go_simp, by go_simp, by go_simp⟩ (Ext.trans ((Ext.refl (w.alloc (.cells #[.int .u8 0, .int .u64 0, .int .u64 0] ty))).drew) hx)
theorem wD_U {K A B ck cap v : Int} (hA : U A) (hB : U B) (hn : U ck) (hc : U cap) (hv : U v) : U (wD K A B ck cap v) := by
  have hF := fil_U K hA hB hn hc
  have e1 : wD K A B ck cap v = if v > cap then 0 else if fits (fil K A B ck cap) v cap = true then 0 else fil K A B ck cap - (cap - v) := rfl
  rw [e1]
  unfold U at *
  split
  · omega
  · split
    · omega
    · rename_i h1 h2
      have h3 : ¬ fil K A B ck cap + v ≤ cap := fun h => h2 (decide_eq_true h)
      omega
theorem ans_Charge {tmps : Array Value} {w : World} {r : Nat} {a : Ans} (h4 : tmps[8]?.getD undef = .pointer (some ⟨r, 0, none⟩)) (h : AnsAt w r a) :
    (results Tryz.f94 tmps).run Tryz.prog w = .ok (ansV a) w := by
  obtain ⟨a0, a1, a2, a3, a4, a5, a6, a7, a8, a9⟩ := h
  simp only [results, Tryz.results94]
  simp [h4, go_sem, a0, a1, a2, a3, a4, a5, a6, a7, a8, a9, ansV]

end Go.Proofs.YtdgcgpapcbjfhaaGreatDoor

/- A table charges a key. -/
namespace Go.Proofs.YtdgcgpapcbjfhaaGreatDoor
open Go.RowKit

set_option maxRecDepth 100000 in
set_option maxHeartbeats 6400000 in
theorem pCharge (t : Nat) (mo ck : Int) (mb : Nat) (es : Array MapEntry) (mk : Nat) (k : List UInt8) (hk : kRight k = true) (r : Rl) (hr : okR r) (n : Int) (hn : U n) (hck : U ck) (is : Bool) (cap V : Int) (hcap : r.ev * r.bu = cap) (hVe : umul n r.ev = V) (sk sp : ByteArray) (se sbb sd SK SA SB : Int) (hSA : U SA) (hSB : U SB) (w : World)
    (hT0 : t < w.heap.size) (hmb : mb < w.heap.size) (hroom : is = false → (es.size : Int) < mo)
    (K A B : Int) (hK : K = if is then SK else oK r.kd) (hA : A = if is then SA else oA r.kd ck cap 0) (hB : B = if is then SB else oB r.kd ck)
    (hno : is = true → dok K A B ck cap V = false) (hes : is = false → es = #[])
    (hS : SlotSays t mo ck mb es mk k r (.agg #[.string sk, .string sp, .int .u64 se, .int .u64 sbb, .int .u8 sd, .int .u8 SK, .int .u64 SA, .int .u64 SB]) is w) :
    Calls Tryz.prog 94 #[.pointer (some ⟨t, 0, none⟩), .string (strOf k), rlV r, .int .u64 n] w fun e w' => ∃ a, e = .returned (ansV a) ∧ a.code = (pk (dok K A B ck cap V) 1 2) ∧ a.nanos = wD K A B ck cap V ∧
      TabAt w' t mo ck mb (pk (dok K A B ck cap V) #[{ key := .string (strOf k), val := slotV (strOf k) r (dK K A B ck cap V) (dA K A B ck cap V) (dB K A B ck cap V), born := mk }] es) (pk (dok K A B ck cap V) (mk + 1) mk) ∧ But (fun j => j = mb) w w' := by
  have hKey := fun w => pKey (strOf k) w
  have hRR := fun w => pRuleRight r hr w
  have hMul := fun w => nMul n r.ev hn hr.2.1 w
  have hV : U V := hVe ▸ umul_U hn hr.2.1
  have hCp := fun w => pCap r hr w
  have hev : U r.ev := hr.2.1
  rw [hcap] at hCp
  rw [hVe] at hMul
  clear hcap hVe
  have hkd : r.kd ≤ 3 := hr.2.2.2.1
  rw [bs_strOf, hk] at hKey
  have hKH := Lib.hid hK
  have hAH := Lib.hid hA
  have hBH := Lib.hid hB
  have hnoH := Lib.hid hno
  have hesH := Lib.hid hes
  clear hK hA hB hno hes
  unfold SlotSays at hS
  unfold rlV at *
  go_enter Tryz.func94, Tryz.ntmps94
  obtain ⟨B1, hB1⟩ : ∃ B, w.heap.size = B := ⟨_, rfl⟩
  obtain ⟨W, hW⟩ : ∃ W, (w.alloc (.cells #[.string (strOf r.pre), .int .u64 r.ev, .int .u64 r.bu, .int .u8 (r.kd : Int)] 47)).alloc (.cells #[.int .u8 0, .int .u16 0, .int .u64 0, .int .u64 0, .int .u64 0, .int .u64 0, .int .u64 0, .bool false, .int .i64 0, .slice none 0 0] 43) = W := ⟨_, rfl⟩
  have hx0 : Ext w W := by rw [← hW]; exact ((Ext.refl w).alloc _).alloc _
  have hrb : RuleBox W B1 r := by subst hW hB1; exact ⟨by go_simp, by go_simp, by go_simp, by go_simp⟩
  have hza : Hid (ZeroAns W (B1 + 1)) := Lib.hid (by subst hW hB1; exact ⟨⟨by go_simp, by go_simp, by go_simp, by go_simp, by go_simp, by go_simp, by go_simp, by go_simp, by go_simp, by go_simp⟩, by go_simp, by go_simp, by go_simp, by go_simp, by go_simp, by go_simp, by go_simp, by go_simp, by go_simp, by go_simp⟩)
  have hszW : Hid (W.heap.size = B1 + 2) := Lib.hid (by subst hW hB1; simp)
  have hmB : ¬ B1 = mb := by omega
  have htm : Hid (¬ B1 + 1 = mb ∧ ¬ B1 + 1 = t ∧ ¬ B1 = t ∧ ¬ B1 = mb ∧ t < B1 ∧ mb < B1) := Lib.hid ⟨by omega, by omega, by omega, by omega, by omega, by omega⟩
  have hBw := Lib.hid hB1
  go_wp2_with fail
  refine (hKey _).mono ?_
  rintro e w1 ⟨rfl, hx1⟩
  obtain ⟨r0, r1, r2, r3⟩ := hrb.but (But.of_ext hx1) (show ¬ W.heap.size ≤ B1 by have := hszW.out; omega)
  have hx01 := Lib.hid (hx0.trans hx1)
  have hxW1 := Lib.hid hx1
  clear hB1 hW hx0 hx1 hKey
  go_wp2_with fail
  refine (hRR _).mono ?_
  rintro e w2 ⟨rfl, hx2⟩
  have hb2 : RuleBox w2 B1 r := (show RuleBox w1 B1 r from ⟨r0, r1, r2, r3⟩).but (But.of_ext hx2) (Nat.not_le.2 (World.block_lt_of_cell? w1 _ r0))
  clear r0 r1 r2 r3 hRR
  obtain ⟨r0, r1, r2, r3⟩ := hb2
  have hx02 := Lib.hid (hx01.out.trans hx2)
  have hxW2 := Lib.hid (hxW1.out.trans hx2)
  clear hx2 hx01 hxW1
  go_wp2_with fail
  refine (hS _ hx02.out).mono ?_
  rintro e w3 ⟨rfl, hT3, hbt3⟩
  have hsz3 : Hid (B1 + 1 < w3.heap.size ∧ w.heap.size ≤ w3.heap.size) := Lib.hid (by
    have h1 := hxW2.out.size; have h2 := hbt3.size; have h3 := hszW.out; have h4 := hBw.out; omega)
  have hch3 : Hid (ChS w3 t mo ck mb es mk B1 r w3) := Lib.hid ⟨But.refl _ _, hT3, (show RuleBox w2 B1 r from ⟨r0, r1, r2, r3⟩).but hbt3 hmB, (hza.out.but (But.of_ext hxW2.out) (show ¬ W.heap.size ≤ B1 + 1 by have := hszW.out; omega)).but hbt3 htm.out.1, ⟨by have := hsz3.out; omega, by have := hsz3.out; omega, hsz3.out.1⟩, htm.out.2.2.2.1, htm.out.1⟩
  have hw3 := Lib.hid ((But.of_ext (S := fun j => j = mb) hx02.out).trans hbt3)
  clear r0 r1 r2 r3 hbt3 hza hxW2 hx02 hS
  obtain ⟨B2, hB2⟩ : ∃ B2, w3.heap.size = B2 := ⟨_, rfl⟩
  obtain ⟨W4, hW4⟩ : ∃ W4, w3.alloc (.cells #[.string sk, .string sp, .int .u64 se, .int .u64 sbb, .int .u8 sd, .int .u8 SK, .int .u64 SA, .int .u64 SB] 196) = W4 := ⟨_, rfl⟩
  have hx34 : Ext w3 W4 := by rw [← hW4]; exact (Ext.refl w3).alloc _
  have hch4 : Hid (ChS w3 t mo ck mb es mk B1 r W4) := Lib.hid (hch3.out.ext hx34)
  have hs4 : Hid (St3 W4 B2 5 6 7 SK SA SB) := Lib.hid (by subst hW4 hB2; exact ⟨⟨by go_simp, by go_simp, by go_simp⟩, by go_simp, by go_simp, by go_simp⟩)
  have hB2w := Lib.hid hB2
  go_wp2
  have hT4 := hT3.ext hx34
  have l0 : ∀ w', Ext W4 w' → w'.cell? ⟨t, 0, none⟩ = some (.int .i64 mo) := fun w' h => h.reads hT4.c0
  have l2 : ∀ w', Ext W4 w' → w'.cell? ⟨t, 2, none⟩ = some (.map (some mb)) := fun w' h => h.reads hT4.c2
  have l3 : ∀ w', Ext W4 w' → ∀ ty, (Builtin.len_ #[133] ty #[.map (some mb)]).run Tryz.prog w' = .ok (.int .i64 es.size) w' := fun w' h ty => len_map (hT4.ext h).m ty
  clear hB2 hW4 hT3 hx34
  have hxdd : Ext W4 W4.drew.drew := ((Ext.refl W4).drew).drew
  have hchd : Hid (ChS w3 t mo ck mb es mk B1 r W4.drew.drew) := Lib.hid (hch4.out.ext hxdd)
  have hsd : Hid (St3 W4.drew.drew B2 5 6 7 SK SA SB) := Lib.hid (hs4.out.ext hxdd)
  clear hxdd hch4 hs4
  cases is
  focus
    have hrm := hroom rfl
    have hst : Ext W4 W4 := Ext.refl W4
    have hWd : Ext W4 W4.drew := (Ext.refl W4).drew
    go_region_held3 (Ext W4) (first | assumption | repeat (first | exact Ext.refl _ | assumption | apply Ext.drew | apply Ext.alloc | (refine Ext.setCell ?_ (by simp <;> omega) _) | refine Ext.trans ?_ (by assumption))) (fail)
    have hge : ¬ mo ≤ (es.size : Int) := by omega
    go_wp2
    go_region_held3 (Ext W4) (first | assumption | repeat (first | exact Ext.refl _ | assumption | apply Ext.drew | apply Ext.alloc | (refine Ext.setCell ?_ (by simp <;> omega) _) | refine Ext.trans ?_ (by assumption))) (fail)
    clear l0 l2 l3 hT4 hst hWd hge hrm
  rotate_left
  focus
    clear l0 l2 l3 hT4
    go_region
    go_wp2
    go_region
  rotate_left
  all_goals
    obtain ⟨r0, r1, r2, r3⟩ := hchd.out.rb
    go_wp2_with fail
    refine (hCp _).mono ?_
    rintro e w5 ⟨rfl, hU, hx5⟩
    have hch5 := Lib.hid (hchd.out.ext hx5)
    have hs5 := Lib.hid (hsd.out.ext hx5)
    clear r0 r1 r2 r3 hx5 hsd hchd hCp hroom
  focus
    go_wp2
    have hst : S15 w3 t mo ck mb es mk B1 r B2 w5 := ⟨hch5.out, ⟨_, _, _, hs5.out⟩, Nat.le_of_eq hB2w.out⟩
    have l1 : ∀ w', S15 w3 t mo ck mb es mk B1 r B2 w' → w'.cell? ⟨B1, 3, none⟩ = some (.int .u8 (r.kd : Int)) := fun w' h => h.ch.rb.2.2.2
    have l2 : ∀ w', S15 w3 t mo ck mb es mk B1 r B2 w' → w'.cell? ⟨t, 1, none⟩ = some (.int .u64 ck) := fun w' h => h.ch.tab.c1
    have hOf : ∀ w', S15 w3 t mo ck mb es mk B1 r B2 w' → Calls Tryz.prog 125 #[.int .u8 (r.kd : Int), .int .u64 ck, .int .u64 cap, .int .u64 0] w' fun e w'' => e = .returned (.tuple #[.agg #[.int .u8 (oK r.kd), .int .u64 (oA r.kd ck cap 0), .int .u64 (oB r.kd ck)], .int .u16 (oE r.kd)]) ∧ S15 w3 t mo ck mb es mk B1 r B2 w'' := fun w' h => (kOf r.kd ck cap 0 hck hU ⟨by omega, by omega⟩ w').mono fun e w'' h2 => ⟨h2.1, h.ext h2.2⟩
    go_region_held3 (S15 w3 t mo ck mb es mk B1 r B2) (first | assumption | exact S15.drew (by assumption) | exact S15.sets (by assumption) _ _ _) (first
      | (go_at_call 125; refine (hOf _ (by assumption)).mono ?_; rintro e w9 ⟨rfl, hb⟩; obtain ⟨K9, A9, B9, ⟨q0, q1, q2⟩, g0, g1, g2⟩ := hb.st))
    obtain ⟨W6, hW6⟩ : ∃ W6, ((w9.setCell ⟨B2, 5, none⟩ (.int .u8 (oK r.kd))).setCell ⟨B2, 6, none⟩ (.int .u64 (oA r.kd ck cap 0))).setCell ⟨B2, 7, none⟩ (.int .u64 (oB r.kd ck)) = W6 := ⟨_, rfl⟩
    have hch6 : Hid (ChS w3 t mo ck mb es mk B1 r W6) := Lib.hid (by rw [← hW6]; exact (hb.sets _ _ _).ch)
    have hs6 : Hid (St3 W6 B2 5 6 7 K A B) := Lib.hid (by
      have h6 := (show St3 w9 B2 5 6 7 K9 A9 B9 from ⟨⟨q0, q1, q2⟩, g0, g1, g2⟩).sets (oK r.kd) (oA r.kd ck cap 0) (oB r.kd ck)
      rw [hW6] at h6
      rw [hKH.out, hAH.out, hBH.out]; exact h6)
    have hUA : U A := by rw [hAH.out]; exact oA_U r.kd hck hU ⟨by omega, by omega⟩
    have hUB : U B := by rw [hBH.out]; exact oB_U r.kd hck
    rw [hW6]
    clear hW6 hs5 hch5 hst l1 l2 hOf hb q0 q1 q2 g0 g1 g2
  rotate_left
  focus
    obtain ⟨W6, hW6⟩ : ∃ W6, w5 = W6 := ⟨_, rfl⟩
    have hch6 : Hid (ChS w3 t mo ck mb es mk B1 r W6) := hW6 ▸ hch5
    have hs6 : Hid (St3 W6 B2 5 6 7 K A B) := Lib.hid (by rw [← hW6, hKH.out, hAH.out, hBH.out]; exact hs5.out)
    have hUA : U A := by rw [hAH.out]; exact hSA
    have hUB : U B := by rw [hBH.out]; exact hSB
    rw [hW6]
    clear hW6 hs5 hch5
  rotate_left
  all_goals
    have hNw := wD_U (K := K) hUA hUB hck hU hV
    have hdA := dA_U K hUA hUB hck hU hV
    have hdB := dB_U (A := A) (cap := cap) (v := V) K hUB hck
    obtain ⟨r0, r1, r2, r3⟩ := hch6.out.rb
    have hsz6 : Hid (w3.heap.size ≤ W6.heap.size ∧ B2 < W6.heap.size) := Lib.hid ⟨hch6.out.but.size, hs6.out.lt⟩
    go_wp2_with fail
    refine (hMul _).mono ?_
    rintro e w7 ⟨rfl, hx7⟩
    have hb7 := hch6.out.rb.but (But.of_ext hx7) (Nat.not_le.2 (World.block_lt_of_cell? _ _ hch6.out.rb.1))
    clear r0 r1 r2 r3 hMul
    obtain ⟨r0, r1, r2, r3⟩ := hb7
    obtain ⟨AB, hAB⟩ : ∃ AB, w7.heap.size = AB := ⟨_, rfl⟩
    go_wp2
    obtain ⟨W8, hW8⟩ : ∃ W8, w7.alloc (.cells #[.int .u8 2, .int .u16 0, .int .u64 r.bu, .int .u64 0, .int .u64 0, .int .u64 0, .int .u64 0, .bool false, .int .i64 0, .slice none 0 0] 43) = W8 := ⟨_, rfl⟩
    have hx68 : Ext W6 W8 := by rw [← hW8]; exact hx7.alloc _
    have hAn : Hid (AnB W8 AB ⟨2, 0, r.bu, 0, 0, 0, 0, false, 0⟩) := Lib.hid (by subst hW8 hAB; exact ⟨⟨by go_simp, by go_simp, by go_simp, by go_simp, by go_simp, by go_simp, by go_simp, by go_simp, by go_simp, by go_simp⟩, by go_simp, by go_simp, by go_simp, by go_simp, by go_simp, by go_simp, by go_simp, by go_simp, by go_simp, by go_simp⟩)
    have hS18 : Hid (SAns w3 t mo ck mb es mk B1 r B2 5 6 7 K A B AB 2 (fun _ => True) W8) := Lib.hid ⟨hch6.out.ext hx68, hs6.out.ext hx68, ⟨_, hAn.out, rfl, trivial⟩, by have := hsz6.out.1; have := hx7.size; omega, Nat.le_of_eq hB2w.out, by have := hsz6.out.2; have := hx7.size; omega⟩
    rw [hW8]
    clear hAB hW8 r0 r1 r2 r3 hx7 hx68 hAn hch6 hs6
    go_cut [] from 17 (fun wx => SAns w3 t mo ck mb es mk B1 r B2 5 6 7 K A B AB 2 (fun x => x = wD K A B ck cap V) wx)
    case first =>
      have hst := hS18.out
      have l1 : ∀ w', SAns w3 t mo ck mb es mk B1 r B2 5 6 7 K A B AB 2 (fun _ => True) w' → w'.cell? ⟨B2, 5, none⟩ = some (.int .u8 K) := fun w' h => h.st.1.1
      have l2 : ∀ w', SAns w3 t mo ck mb es mk B1 r B2 5 6 7 K A B AB 2 (fun _ => True) w' → w'.cell? ⟨B2, 6, none⟩ = some (.int .u64 A) := fun w' h => h.st.1.2.1
      have l3 : ∀ w', SAns w3 t mo ck mb es mk B1 r B2 5 6 7 K A B AB 2 (fun _ => True) w' → w'.cell? ⟨B2, 7, none⟩ = some (.int .u64 B) := fun w' h => h.st.1.2.2
      have l4 : ∀ w', SAns w3 t mo ck mb es mk B1 r B2 5 6 7 K A B AB 2 (fun _ => True) w' → w'.cell? ⟨t, 1, none⟩ = some (.int .u64 ck) := fun w' h => h.ch.tab.c1
      have hWt : ∀ w', SAns w3 t mo ck mb es mk B1 r B2 5 6 7 K A B AB 2 (fun _ => True) w' → Calls Tryz.prog 126 #[.agg #[.int .u8 K, .int .u64 A, .int .u64 B], .int .u64 ck, .int .u64 cap, .int .u64 V] w' fun e w'' => e = .returned (.tuple #[.int .u64 (wD K A B ck cap V), .bool (wOk K A B ck cap V)]) ∧ SAns w3 t mo ck mb es mk B1 r B2 5 6 7 K A B AB 2 (fun _ => True) w'' := fun w' h => (kWait K A B ck cap V hUA hUB hck hU hV w').mono fun e w'' h2 => ⟨h2.1, h.ext h2.2⟩
      go_region_held3 (SAns w3 t mo ck mb es mk B1 r B2 5 6 7 K A B AB 2 (fun _ => True)) (first | assumption | exact SAns.drew (by assumption) | exact SAns.set6 (by assumption) _ trivial | exact SAns.set7 (by assumption) _) (first
        | (go_at_call 126; refine (hWt _ (by assumption)).mono ?_; rintro e w9 ⟨rfl, hb⟩; obtain ⟨a9, ⟨⟨q0, q1, q2, q3, q4, q5, q6, q7, q8, q9⟩, g0, g1, g2, g3, g4, g5, g6, g7, g8, g9⟩, -, -⟩ := hb.an))
      all_goals
        go_wp2_with fail
        go_meet
        first
          | exact (hb.set6 (N' := fun x => x = wD K A B ck cap V) _ rfl).set7 _
          | exact (hb.set7 _).set6 (N' := fun x => x = wD K A B ck cap V) _ rfl
    case rest =>
      obtain ⟨a9, ⟨⟨q0, q1, q2, q3, q4, q5, q6, q7, q8, q9⟩, g0, g1, g2, g3, g4, g5, g6, g7, g8, g9⟩, -, han⟩ := hcut.an
      have han' : a9.nanos = wD K A B ck cap V := han
      rw [han'] at q6
      have hCe := fun w => nCeil (wD K A B ck cap V) 1000000000 hNw ⟨by omega, by omega⟩ w
      have hcH := Lib.hid hcut
      clear han han' hS18 hcut
      go_wp2_with fail
      refine (hCe _).mono ?_
      rintro e w10 ⟨rfl, rfl⟩
      go_wp2
      obtain ⟨W10, hW10⟩ : ∃ W10, wc.setCell ⟨AB, 5, none⟩ (.int .u64 (uceil (wD K A B ck cap V) 1000000000)) = W10 := ⟨_, rfl⟩
      have hS20 : Hid (SAns w3 t mo ck mb es mk B1 r B2 5 6 7 K A B AB 2 (fun x => x = wD K A B ck cap V) W10) := Lib.hid (by rw [← hW10]; exact hcH.out.set5 _)
      rw [hW10]
      clear hW10 q0 q1 q2 q3 q4 q5 q6 q7 q8 q9 g0 g1 g2 g3 g4 g5 g6 g7 g8 g9 hcH hCe
      go_cut [15, 16] from 17 (fun s15 s16 wx => ∃ NB, s15 = .pointer (some ⟨NB, 0, none⟩) ∧ s16 = .bool (dok K A B ck cap V) ∧ SAns w3 t mo ck mb es mk B1 r NB 0 1 2 (dK K A B ck cap V) (dA K A B ck cap V) (dB K A B ck cap V) AB 2 (fun x => x = wD K A B ck cap V) wx)
      case first =>
        have hst := hS20.out
        have l1 : ∀ w', SAns w3 t mo ck mb es mk B1 r B2 5 6 7 K A B AB 2 (fun x => x = wD K A B ck cap V) w' → w'.cell? ⟨B2, 5, none⟩ = some (.int .u8 K) := fun w' h => h.st.1.1
        have l2 : ∀ w', SAns w3 t mo ck mb es mk B1 r B2 5 6 7 K A B AB 2 (fun x => x = wD K A B ck cap V) w' → w'.cell? ⟨B2, 6, none⟩ = some (.int .u64 A) := fun w' h => h.st.1.2.1
        have l3 : ∀ w', SAns w3 t mo ck mb es mk B1 r B2 5 6 7 K A B AB 2 (fun x => x = wD K A B ck cap V) w' → w'.cell? ⟨B2, 7, none⟩ = some (.int .u64 B) := fun w' h => h.st.1.2.2
        have l4 : ∀ w', SAns w3 t mo ck mb es mk B1 r B2 5 6 7 K A B AB 2 (fun x => x = wD K A B ck cap V) w' → w'.cell? ⟨t, 1, none⟩ = some (.int .u64 ck) := fun w' h => h.ch.tab.c1
        have hnb : w3.heap.size ≤ W10.heap.size ∧ B2 ≠ W10.heap.size ∧ AB ≠ W10.heap.size := ⟨hst.ch.but.size, Nat.ne_of_lt hst.st.lt, by obtain ⟨a, h3, -⟩ := hst.an; exact Nat.ne_of_lt h3.lt⟩
        have hnbH := Lib.hid hnb
        have hDe : ∀ w', SAns w3 t mo ck mb es mk B1 r B2 5 6 7 K A B AB 2 (fun x => x = wD K A B ck cap V) w' → Calls Tryz.prog 128 #[.agg #[.int .u8 K, .int .u64 A, .int .u64 B], .int .u64 ck, .int .u64 cap, .int .u64 V] w' fun e w'' => e = .returned (.tuple #[.agg #[.int .u8 (dK K A B ck cap V), .int .u64 (dA K A B ck cap V), .int .u64 (dB K A B ck cap V)], .bool (dok K A B ck cap V)]) ∧ SAns w3 t mo ck mb es mk B1 r B2 5 6 7 K A B AB 2 (fun x => x = wD K A B ck cap V) w'' ∧ Ext w' w'' := fun w' h => (kDecide K A B ck cap V hUA hUB hck hU hV w').mono fun e w'' h2 => ⟨h2.1, h.ext h2.2, h2.2⟩
        clear hnb
        go_region_held3 (SAns w3 t mo ck mb es mk B1 r B2 5 6 7 K A B AB 2 (fun x => x = wD K A B ck cap V)) (first | assumption | exact SAns.drew (by assumption) | exact SAns.ext (by assumption) ((Ext.refl _).alloc _) | exact SAns.set3n (by assumption) hnbH.out _ _ _) (first
          | (go_at_call 128; refine (hDe _ (by assumption)).mono ?_; rintro e w9 ⟨rfl, hb, hx⟩; have hn9 : St3 w9 W10.heap.size 0 1 2 0 0 0 := newSt hx; have hn9H := Lib.hid hn9; obtain ⟨⟨n0, n1, n2⟩, m0, m1, m2⟩ := hn9; clear hx)
          | (go_at_call 128; refine (hDe _ (by assumption)).mono ?_; rintro e w9 ⟨rfl, hb, hx⟩; clear hx))
        all_goals
          go_wp2_with fail
          go_meet
          refine ⟨_, rfl, rfl, ?_⟩
          first
            | exact hb.newA _ _ _ _
            | exact hb.newB hnbH.out hn9H.out _ _ _
      case rest =>
        obtain ⟨NB, rfl, rfl, hS⟩ := hcut
        clear hS20
        go_upto_if 123 with (fail)
        go_cut [16] from 17 (fun _ wx => SAns w3 t mo ck mb (pk (dok K A B ck cap V) #[{ key := .string (strOf k), val := slotV (strOf k) r (dK K A B ck cap V) (dA K A B ck cap V) (dB K A B ck cap V), born := mk }] es) (pk (dok K A B ck cap V) (mk + 1) mk) B1 r NB 0 1 2 (dK K A B ck cap V) (dA K A B ck cap V) (dB K A B ck cap V) AB (pk (dok K A B ck cap V) 1 2) (fun x => x = wD K A B ck cap V) wx)
        case first =>
          cases hd : dok K A B ck cap V
          · go_wp2_with fail
            go_meet
            rw [hd]
            exact hS
          · have hes0 : es = #[] := by first | exact (by simpa using hesH.out) | (exact absurd (hnoH.out trivial) (by rw [hd]; decide)) | (exact absurd (hnoH.out rfl) (by rw [hd]; decide))
            subst hes0
            obtain ⟨a9, ⟨⟨q0, q1, q2, q3, q4, q5, q6, q7, q8, q9⟩, g0, g1, g2, g3, g4, g5, g6, g7, g8, g9⟩, -, -⟩ := hS.an
            go_wp2
            obtain ⟨W23, hW23⟩ : ∃ W23, wc.setCell ⟨AB, 0, none⟩ (.int .u8 1) = W23 := ⟨_, rfl⟩
            have hS23 : SAns w3 t mo ck mb #[] mk B1 r NB 0 1 2 (dK K A B ck cap V) (dA K A B ck cap V) (dB K A B ck cap V) AB 1 (fun x => x = wD K A B ck cap V) W23 := by rw [← hW23]; exact hS.set0 1
            rw [hW23]
            clear hW23 hS q0 q1 q2 q3 q4 q5 q6 q7 q8 q9 g0 g1 g2 g3 g4 g5 g6 g7 g8 g9
            have c2 := hS23.ch.tab.c2
            obtain ⟨r0, r1, r2, r3⟩ := hS23.ch.rb
            obtain ⟨⟨n0, n1, n2⟩, -⟩ := hS23.st
            have hmu : (Instr.mapUpdate 133 (.map (some mb)) (.string (strOf k)) (slotV (strOf k) r (dK K A B ck cap V) (dA K A B ck cap V) (dB K A B ck cap V))).run Tryz.prog W23.drew = .ok () (putMap W23.drew mb #[{ key := .string (strOf k), val := slotV (strOf k) r (dK K A B ck cap V) (dA K A B ck cap V) (dB K A B ck cap V), born := mk }] (mk + 1)) :=
              insN _ (show Tryz.prog.underlying 133 = some (.map 9 196) by kernel_rfl) (show Tryz.prog.underlying 9 = some .string by kernel_rfl) (fun b w => ckStr (show Tryz.prog.underlying 9 = some .string by kernel_rfl) b _ w) (show W23.drew.heap[mb]? = _ from hS23.ch.tab.m) rfl
            unfold slotV at hmu
            have hS24 : Hid (SAns w3 t mo ck mb #[{ key := .string (strOf k), val := slotV (strOf k) r (dK K A B ck cap V) (dA K A B ck cap V) (dB K A B ck cap V), born := mk }] (mk + 1) B1 r NB 0 1 2 (dK K A B ck cap V) (dA K A B ck cap V) (dB K A B ck cap V) AB 1 (fun x => x = wD K A B ck cap V) (putMap W23.drew mb #[{ key := .string (strOf k), val := slotV (strOf k) r (dK K A B ck cap V) (dA K A B ck cap V) (dB K A B ck cap V), born := mk }] (mk + 1))) := Lib.hid (hS23.drew.put _ _)
            obtain ⟨W24, hW24⟩ : ∃ W24, putMap W23.drew mb #[{ key := .string (strOf k), val := slotV (strOf k) r (dK K A B ck cap V) (dA K A B ck cap V) (dB K A B ck cap V), born := mk }] (mk + 1) = W24 := ⟨_, rfl⟩
            rw [hW24] at hS24
            unfold slotV at hW24
            rw [hW24] at hmu
            clear hS23 hW24
            go_still_tail 9, (by kernel_rfl)
            go_wp2_with fail
            go_meet
            rw [hd]
            exact hS24.out
        case rest =>
          obtain ⟨E, hE⟩ : ∃ E : Array MapEntry, (pk (dok K A B ck cap V) #[{ key := .string (strOf k), val := slotV (strOf k) r (dK K A B ck cap V) (dA K A B ck cap V) (dB K A B ck cap V), born := mk }] es) = E := ⟨_, rfl⟩
          obtain ⟨mk', hmk⟩ : ∃ m : Nat, (pk (dok K A B ck cap V) (mk + 1) mk) = m := ⟨_, rfl⟩
          obtain ⟨cd, hcd⟩ : ∃ c : Int, (pk (dok K A B ck cap V) 1 2) = c := ⟨_, rfl⟩
          have hEq := Lib.hid (And.intro hE (And.intro hmk hcd))
          rw [hE, hmk, hcd] at hcut
          clear hS hE hmk hcd
          have hst := hcut
          have l1 : ∀ w', SAns w3 t mo ck mb E mk' B1 r NB 0 1 2 (dK K A B ck cap V) (dA K A B ck cap V) (dB K A B ck cap V) AB cd (fun x => x = wD K A B ck cap V) w' → w'.cell? ⟨NB, 0, none⟩ = some (.int .u8 (dK K A B ck cap V)) := fun w' h => h.st.1.1
          have l2 : ∀ w', SAns w3 t mo ck mb E mk' B1 r NB 0 1 2 (dK K A B ck cap V) (dA K A B ck cap V) (dB K A B ck cap V) AB cd (fun x => x = wD K A B ck cap V) w' → w'.cell? ⟨NB, 1, none⟩ = some (.int .u64 (dA K A B ck cap V)) := fun w' h => h.st.1.2.1
          have l3 : ∀ w', SAns w3 t mo ck mb E mk' B1 r NB 0 1 2 (dK K A B ck cap V) (dA K A B ck cap V) (dB K A B ck cap V) AB cd (fun x => x = wD K A B ck cap V) w' → w'.cell? ⟨NB, 2, none⟩ = some (.int .u64 (dB K A B ck cap V)) := fun w' h => h.st.1.2.2
          have l4 : ∀ w', SAns w3 t mo ck mb E mk' B1 r NB 0 1 2 (dK K A B ck cap V) (dA K A B ck cap V) (dB K A B ck cap V) AB cd (fun x => x = wD K A B ck cap V) w' → w'.cell? ⟨t, 1, none⟩ = some (.int .u64 ck) := fun w' h => h.ch.tab.c1
          have l5 : ∀ w', SAns w3 t mo ck mb E mk' B1 r NB 0 1 2 (dK K A B ck cap V) (dA K A B ck cap V) (dB K A B ck cap V) AB cd (fun x => x = wD K A B ck cap V) w' → w'.cell? ⟨B1, 1, none⟩ = some (.int .u64 r.ev) := fun w' h => h.ch.rb.2.1
          have hLf : ∀ w', SAns w3 t mo ck mb E mk' B1 r NB 0 1 2 (dK K A B ck cap V) (dA K A B ck cap V) (dB K A B ck cap V) AB cd (fun x => x = wD K A B ck cap V) w' → Calls Tryz.prog 129 #[.agg #[.int .u8 (dK K A B ck cap V), .int .u64 (dA K A B ck cap V), .int .u64 (dB K A B ck cap V)], .int .u64 ck, .int .u64 cap, .int .u64 r.ev] w' fun e w'' => (∃ q, e = .returned (.int .u64 q)) ∧ SAns w3 t mo ck mb E mk' B1 r NB 0 1 2 (dK K A B ck cap V) (dA K A B ck cap V) (dB K A B ck cap V) AB cd (fun x => x = wD K A B ck cap V) w'' := fun w' h => (kLeft _ _ _ ck cap r.ev hdA hdB hck hU hev w').mono fun e w'' h2 => ⟨⟨_, h2.1⟩, h.ext h2.2⟩
          have hFl : ∀ w', SAns w3 t mo ck mb E mk' B1 r NB 0 1 2 (dK K A B ck cap V) (dA K A B ck cap V) (dB K A B ck cap V) AB cd (fun x => x = wD K A B ck cap V) w' → Calls Tryz.prog 130 #[.agg #[.int .u8 (dK K A B ck cap V), .int .u64 (dA K A B ck cap V), .int .u64 (dB K A B ck cap V)], .int .u64 ck, .int .u64 cap] w' fun e w'' => (∃ q, e = .returned (.int .u64 q) ∧ Hid (U q)) ∧ SAns w3 t mo ck mb E mk' B1 r NB 0 1 2 (dK K A B ck cap V) (dA K A B ck cap V) (dB K A B ck cap V) AB cd (fun x => x = wD K A B ck cap V) w'' := fun w' h => (kFill _ _ _ ck cap hdA hdB hck hU w').mono fun e w'' h2 => ⟨⟨_, h2.1, Lib.hid (fil_U _ hdA hdB hck hU)⟩, h.ext h2.2⟩
          have hCe : ∀ q, Hid (U q) → ∀ w', SAns w3 t mo ck mb E mk' B1 r NB 0 1 2 (dK K A B ck cap V) (dA K A B ck cap V) (dB K A B ck cap V) AB cd (fun x => x = wD K A B ck cap V) w' → Calls Tryz.prog 127 #[.int .u64 q, .int .u64 1000000000] w' fun e w'' => (∃ q, e = .returned (.int .u64 q)) ∧ SAns w3 t mo ck mb E mk' B1 r NB 0 1 2 (dK K A B ck cap V) (dA K A B ck cap V) (dB K A B ck cap V) AB cd (fun x => x = wD K A B ck cap V) w'' := fun q hq w' h => (nCeil q 1000000000 hq.out ⟨by omega, by omega⟩ w').mono fun e w'' h2 => ⟨⟨_, h2.1⟩, h2.2 ▸ h⟩
          go_wp2
          go_region_held3 (SAns w3 t mo ck mb E mk' B1 r NB 0 1 2 (dK K A B ck cap V) (dA K A B ck cap V) (dB K A B ck cap V) AB cd (fun x => x = wD K A B ck cap V)) (first | assumption | exact SAns.drew (by assumption) | exact SAns.set3 (by assumption) _) (first
            | (go_at_call 129; refine (hLf _ (by assumption)).mono ?_; rintro e w9 ⟨⟨q, rfl⟩, hb⟩; obtain ⟨a9, ⟨⟨q0, q1, q2, q3, q4, q5, q6, q7, q8, q9⟩, g0, g1, g2, g3, g4, g5, g6, g7, g8, g9⟩, -, -⟩ := hb.an))
          obtain ⟨W25, hW25⟩ : ∃ W25, w9.setCell ⟨AB, 3, none⟩ (.int .u64 q) = W25 := ⟨_, rfl⟩
          have hst5 : SAns w3 t mo ck mb E mk' B1 r NB 0 1 2 (dK K A B ck cap V) (dA K A B ck cap V) (dB K A B ck cap V) AB cd (fun x => x = wD K A B ck cap V) W25 := by rw [← hW25]; exact hb.set3 _
          rw [hW25]
          clear hW25 hb q0 q1 q2 q3 q4 q5 q6 q7 q8 q9 g0 g1 g2 g3 g4 g5 g6 g7 g8 g9 hst hcut l5 hLf
          go_wp2
          go_region_held3 (SAns w3 t mo ck mb E mk' B1 r NB 0 1 2 (dK K A B ck cap V) (dA K A B ck cap V) (dB K A B ck cap V) AB cd (fun x => x = wD K A B ck cap V)) (first | assumption | exact SAns.drew (by assumption) | exact SAns.set4 (by assumption) _) (first
            | (go_at_call 130; refine (hFl _ (by assumption)).mono ?_; rintro e w11 ⟨⟨q, rfl, hq⟩, hb⟩)
            | (go_at_call 127; refine (hCe _ (by assumption) _ (by assumption)).mono ?_; rintro e w12 ⟨⟨qq, rfl⟩, hb2⟩; obtain ⟨a9, ⟨⟨q0, q1, q2, q3, q4, q5, q6, q7, q8, q9⟩, g0, g1, g2, g3, g4, g5, g6, g7, g8, g9⟩, -, -⟩ := hb2.an))
          obtain ⟨W26, hW26⟩ : ∃ W26, w12.setCell ⟨AB, 4, none⟩ (.int .u64 qq) = W26 := ⟨_, rfl⟩
          have hF : SAns w3 t mo ck mb E mk' B1 r NB 0 1 2 (dK K A B ck cap V) (dA K A B ck cap V) (dB K A B ck cap V) AB cd (fun x => x = wD K A B ck cap V) W26 := by rw [← hW26]; exact hb2.set4 _
          rw [hW26]
          clear hW26 hb hb2 q0 q1 q2 q3 q4 q5 q6 q7 q8 q9 g0 g1 g2 g3 g4 g5 g6 g7 g8 g9 hst5 l1 l2 l3 l4 hFl hCe
          obtain ⟨⟨xc, xe, xl, xf, xr, xa, xn, xt, xm⟩, ⟨⟨q0, q1, q2, q3, q4, q5, q6, q7, q8, q9⟩, -⟩, hcf, hnf⟩ := hF.an
          have hz := hF.ch.za
          have hS := Lib.hid (ans_store W26 (B1 + 1) hz ⟨xc, xe, xl, xf, xr, xa, xn, xt, xm⟩)
          obtain ⟨⟨z0, z1, z2, z3, z4, z5, z6, z7, z8, z9⟩, y0, y1, y2, y3, y4, y5, y6, y7, y8, y9⟩ := hz
          have hcf' := Lib.hid hcf
          have hnf' := Lib.hid hnf
          have hFH := Lib.hid hF
          clear hcf hnf hF
          go_wp2
          obtain ⟨h1, h2⟩ := hS.out _ rfl
          refine bodyPost_ret (ans_Charge rfl h2) rfl ⟨⟨xc, xe, xl, xf, xr, xa, xn, xt, xm⟩, rfl, hcf'.out.trans hEq.out.2.2.symm, hnf'.out, ?_, (hw3.out.trans hFH.out.ch.but).fresh h1 (by rintro i rfl; have := hBw.out; omega)⟩
          rw [hEq.out.1, hEq.out.2.1]
          exact hFH.out.ch.tab.but h1 (fun e => htm.out.2.1 e.symm) (fun e => htm.out.1 e.symm)

end Go.Proofs.YtdgcgpapcbjfhaaGreatDoor

/- A table's slot of a key that is there: it is told, or goes. -/
namespace Go.Proofs.YtdgcgpapcbjfhaaGreatDoor
open Go.RowKit

theorem delY {P : Program} {T K E : TypeId} {kd : TypeDesc} {W : World} {r : Nat} {es : Array MapEntry} {ck : Nat} {k v : Value} {i : Nat} (hT : P.underlying T = some (.map K E)) (hK : P.underlying K = some kd)
    (hck : ∀ b w, (Instr.checkKey b 10000 K k).run P w = .ok () w) (hb : W.heap[r]? = some (.map es ck)) (hf : Instr.findNow kd k es.toList 0 = some (some (i, v))) (ty : TypeId) :
    (Builtin.delete_ #[T, K] ty #[.map (some r), k]).run P W = .ok (.tuple #[]) (putMap W r (es.eraseIdxIfInBounds i) ck) := by
  have h1 := hck es.isEmpty W
  simp [Builtin.delete_, Sem.run_bind, run_underlying hT, MapKept.run_getObj_map hb, Result.andThen, h1, Instr.findKey, run_underlying hK, hf, MapKept.run_setObj_map _ hb, putMap]

/-- the one row of a table -/
def one1 (k : List UInt8) (r : Rl) (K A B : Int) (j : Nat) : MapEntry := { key := .string (strOf k), val := slotV (strOf k) r K A B, born := j }

theorem find1 (k : List UInt8) (r : Rl) (K A B : Int) (j : Nat) : Instr.findNow .string (.string (strOf k)) (#[one1 k r K A B j] : Array MapEntry).toList 0 = some (some (0, slotV (strOf k) r K A B)) := by
  show Instr.findNow .string (.string (strOf k)) [one1 k r K A B j] 0 = _
  rw [findS' (strOf k) (strOf k) (one1 k r K A B j) [] 0 rfl, strOf_beq', if_pos (by simp)]
  rfl

/-- a slot in its box -/
def SlAt (w : World) (q : Nat) (k p : ByteArray) (e b d K A B : Int) : Prop := w.cell? ⟨q, 0, none⟩ = some (.string k) ∧ w.cell? ⟨q, 1, none⟩ = some (.string p) ∧ w.cell? ⟨q, 2, none⟩ = some (.int .u64 e) ∧ w.cell? ⟨q, 3, none⟩ = some (.int .u64 b) ∧ w.cell? ⟨q, 4, none⟩ = some (.int .u8 d) ∧ w.cell? ⟨q, 5, none⟩ = some (.int .u8 K) ∧ w.cell? ⟨q, 6, none⟩ = some (.int .u64 A) ∧ w.cell? ⟨q, 7, none⟩ = some (.int .u64 B)
theorem sl_store (w : World) (q : Nat) (k p : ByteArray) (e b d K A B : Int) (h : ∃ k p e b d K A B, SlAt w q k p e b d K A B) (W2 : World) (hW : ((((((((w.setCell ⟨q, 0, none⟩ (.string k)).setCell ⟨q, 1, none⟩ (.string p)).setCell ⟨q, 2, none⟩ (.int .u64 e)).setCell ⟨q, 3, none⟩ (.int .u64 b)).setCell ⟨q, 4, none⟩ (.int .u8 d)).setCell ⟨q, 5, none⟩ (.int .u8 K)).setCell ⟨q, 6, none⟩ (.int .u64 A)).setCell ⟨q, 7, none⟩ (.int .u64 B)) = W2) : But (fun j => j = q) w W2 ∧ SlAt W2 q k p e b d K A B := by
  obtain ⟨k0, p0, e0, b0, d0, K0, A0, B0, a0, a1, a2, a3, a4, a5, a6, a7⟩ := h
  subst hW
  exact ⟨((((((((But.refl (fun j => j = q) w).setCell rfl _).setCell rfl _).setCell rfl _).setCell rfl _).setCell rfl _).setCell rfl _).setCell rfl _).setCell rfl _, by go_simp, by go_simp, by go_simp, by go_simp, by go_simp, by go_simp, by go_simp, by go_simp⟩
theorem ret_slot {tmps : Array Value} {w : World} {q : Nat} {k p : ByteArray} {e b d K A B : Int} {is : Bool} (h4 : tmps[6]?.getD undef = .pointer (some ⟨q, 0, none⟩)) (h5 : tmps[7]?.getD undef = .bool is) (h : SlAt w q k p e b d K A B) :
    (results Tryz.f122 tmps).run Tryz.prog w = .ok (.tuple #[.agg #[.string k, .string p, .int .u64 e, .int .u64 b, .int .u8 d, .int .u8 K, .int .u64 A, .int .u64 B], .bool is]) w := by
  obtain ⟨a0, a1, a2, a3, a4, a5, a6, a7⟩ := h
  simp only [results, Tryz.results122]
  simp [h4, h5, go_sem, a0, a1, a2, a3, a4, a5, a6, a7]

set_option maxRecDepth 100000 in
set_option maxHeartbeats 3200000 in
theorem pSlotX (t : Nat) (mo ck : Int) (mb mk j : Nat) (k : List UInt8) (r : Rl) (hr : okR r) (hc : U ck) (K A Bb : Int) (hA : U A) (hB : U Bb) (w : World) (hT : TabAt w t mo ck mb #[one1 k r K A Bb j] mk) :
    Calls Tryz.prog 122 #[.pointer (some ⟨t, 0, none⟩), .string (strOf k), rlV r] w fun e w' => (fil K A Bb ck (r.ev * r.bu) ≠ 0 → e = .returned (.tuple #[slotV (strOf k) r K A Bb, .bool true]) ∧ Ext w w') ∧ (fil K A Bb ck (r.ev * r.bu) = 0 → e = .returned (.tuple #[slotV (strOf k) r K A Bb, .bool false]) ∧ TabAt w' t mo ck mb #[] mk ∧ But (fun i => i = mb) w w') := by
  have hlk : ∀ w', Ext w w' → (Instr.lookup 133 (.map (some mb)) (.string (strOf k)) true).run Tryz.prog w' = .ok (.tuple #[slotV (strOf k) r K A Bb, .bool true]) w' := fun w' h =>
    lookY (show Tryz.prog.underlying 133 = some (.map 9 196) by kernel_rfl) (show Tryz.prog.underlying 9 = some .string by kernel_rfl) (fun b w => ckStr (show Tryz.prog.underlying 9 = some .string by kernel_rfl) b _ w) (hT.ext h).m (find1 k r K A Bb j) true
  have htl : t < w.heap.size := World.block_lt_of_cell? w _ hT.c0
  have hFl := fun w => pFillT (strOf k) r K A Bb ck hr hA hB hc w
  have hc2 := hT.c2
  have hc1 := hT.c1
  obtain ⟨F, hF⟩ : ∃ F, fil K A Bb ck (r.ev * r.bu) = F := ⟨_, rfl⟩
  rw [hF] at hFl ⊢
  have hTH := Lib.hid hT
  have hdl : ∀ w', Ext w w' → ∀ ty, (Builtin.delete_ #[133, 9] ty #[.map (some mb), .string (strOf k)]).run Tryz.prog w' = .ok (.tuple #[]) (putMap w' mb #[] mk) := fun w' h ty => by
    have he1 : (#[one1 k r K A Bb j] : Array MapEntry).eraseIdxIfInBounds 0 = #[] := Array.ext' (by simp [Array.eraseIdxIfInBounds, Array.toList_eraseIdx])
    have h3 := delY (show Tryz.prog.underlying 133 = some (.map 9 196) by kernel_rfl) (show Tryz.prog.underlying 9 = some .string by kernel_rfl) (fun b w => ckStr (show Tryz.prog.underlying 9 = some .string by kernel_rfl) b _ w) (hT.ext h).m (find1 k r K A Bb j) ty
    rw [he1] at h3
    exact h3
  have hdlH := Lib.hid hdl
  clear hT hF hr hA hB hc hdl
  unfold rlV slotV at *
  go_enter Tryz.func122, Tryz.ntmps122
  have hl1 := hlk ((w.alloc (.cells #[.string (strOf r.pre), .int .u64 r.ev, .int .u64 r.bu, .int .u8 (r.kd : Int)] 47)).alloc (.cells #[.string ⟨#[]⟩, .string ⟨#[]⟩, .int .u64 0, .int .u64 0, .int .u8 0, .int .u8 0, .int .u64 0, .int .u64 0] 196)) (((Ext.refl w).alloc _).alloc _)
  clear hlk
  obtain ⟨P, hP⟩ : ∃ P, w.heap.size = P := ⟨_, rfl⟩
  obtain ⟨W, hW⟩ : ∃ W, ((w.alloc (.cells #[.string (strOf r.pre), .int .u64 r.ev, .int .u64 r.bu, .int .u8 (r.kd : Int)] 47)).alloc (.cells #[.string ⟨#[]⟩, .string ⟨#[]⟩, .int .u64 0, .int .u64 0, .int .u8 0, .int .u8 0, .int .u64 0, .int .u64 0] 196)).alloc (.cells #[.string (strOf k), .string (strOf r.pre), .int .u64 r.ev, .int .u64 r.bu, .int .u8 (r.kd : Int), .int .u8 K, .int .u64 A, .int .u64 Bb] 196) = W := ⟨_, rfl⟩
  have hx0 : Ext w W := by rw [← hW]; exact (((Ext.refl w).alloc _).alloc _).alloc _
  have htP : t < P := by omega
  have c : (W.cell? ⟨P, 1, none⟩ = some (.int .u64 r.ev) ∧ W.cell? ⟨P, 2, none⟩ = some (.int .u64 r.bu)) ∧ W.cell? ⟨P + 2, 0, none⟩ = some (.string (strOf k)) ∧ W.cell? ⟨P + 2, 1, none⟩ = some (.string (strOf r.pre)) ∧ W.cell? ⟨P + 2, 2, none⟩ = some (.int .u64 r.ev) ∧ W.cell? ⟨P + 2, 3, none⟩ = some (.int .u64 r.bu) ∧ W.cell? ⟨P + 2, 4, none⟩ = some (.int .u8 (r.kd : Int)) ∧ W.cell? ⟨P + 2, 5, none⟩ = some (.int .u8 K) ∧ W.cell? ⟨P + 2, 6, none⟩ = some (.int .u64 A) ∧ W.cell? ⟨P + 2, 7, none⟩ = some (.int .u64 Bb) := by
    subst hW hP; exact ⟨⟨by go_simp, by go_simp⟩, by go_simp, by go_simp, by go_simp, by go_simp, by go_simp, by go_simp, by go_simp, by go_simp⟩
  have z : Hid ((W.cell? ⟨P + 1, 0, none⟩ = some (.string ⟨#[]⟩) ∧ W.cell? ⟨P + 1, 1, none⟩ = some (.string ⟨#[]⟩) ∧ W.cell? ⟨P + 1, 2, none⟩ = some (.int .u64 0) ∧ W.cell? ⟨P + 1, 3, none⟩ = some (.int .u64 0) ∧ W.cell? ⟨P + 1, 4, none⟩ = some (.int .u8 0) ∧ W.cell? ⟨P + 1, 5, none⟩ = some (.int .u8 0) ∧ W.cell? ⟨P + 1, 6, none⟩ = some (.int .u64 0) ∧ W.cell? ⟨P + 1, 7, none⟩ = some (.int .u64 0)) ∧ W.frozen? ⟨P + 1, 0, none⟩ = false ∧ W.frozen? ⟨P + 1, 1, none⟩ = false ∧ W.frozen? ⟨P + 1, 2, none⟩ = false ∧ W.frozen? ⟨P + 1, 3, none⟩ = false ∧ W.frozen? ⟨P + 1, 4, none⟩ = false ∧ W.frozen? ⟨P + 1, 5, none⟩ = false ∧ W.frozen? ⟨P + 1, 6, none⟩ = false ∧ W.frozen? ⟨P + 1, 7, none⟩ = false) := Lib.hid (by
    subst hW hP; exact ⟨⟨by go_simp, by go_simp, by go_simp, by go_simp, by go_simp, by go_simp, by go_simp, by go_simp⟩, by go_simp, by go_simp, by go_simp, by go_simp, by go_simp, by go_simp, by go_simp, by go_simp⟩)
  go_wp2
  clear hl1
  obtain ⟨⟨p1, p2⟩, c0, c1, c2, c3, c4, c5, c6, c7⟩ := c
  have k1 := hx0.reads hc1
  have hPw := Lib.hid hP
  clear hP hW
  have l0 : ∀ w', Ext W w' → w'.cell? ⟨P + 2, 0, none⟩ = some (.string (strOf k)) := fun w' h => h.reads c0
  have l1 : ∀ w', Ext W w' → w'.cell? ⟨P + 2, 1, none⟩ = some (.string (strOf r.pre)) := fun w' h => h.reads c1
  have l2 : ∀ w', Ext W w' → w'.cell? ⟨P + 2, 2, none⟩ = some (.int .u64 r.ev) := fun w' h => h.reads c2
  have l3 : ∀ w', Ext W w' → w'.cell? ⟨P + 2, 3, none⟩ = some (.int .u64 r.bu) := fun w' h => h.reads c3
  have l4 : ∀ w', Ext W w' → w'.cell? ⟨P + 2, 4, none⟩ = some (.int .u8 (r.kd : Int)) := fun w' h => h.reads c4
  have l5 : ∀ w', Ext W w' → w'.cell? ⟨P + 2, 5, none⟩ = some (.int .u8 K) := fun w' h => h.reads c5
  have l6 : ∀ w', Ext W w' → w'.cell? ⟨P + 2, 6, none⟩ = some (.int .u64 A) := fun w' h => h.reads c6
  have l7 : ∀ w', Ext W w' → w'.cell? ⟨P + 2, 7, none⟩ = some (.int .u64 Bb) := fun w' h => h.reads c7
  have m1 : ∀ w', Ext W w' → w'.cell? ⟨P, 1, none⟩ = some (.int .u64 r.ev) := fun w' h => h.reads p1
  have m2 : ∀ w', Ext W w' → w'.cell? ⟨P, 2, none⟩ = some (.int .u64 r.bu) := fun w' h => h.reads p2
  have m3 : ∀ w', Ext W w' → w'.cell? ⟨t, 1, none⟩ = some (.int .u64 ck) := fun w' h => h.reads k1
  have hFl' : ∀ w', Ext W w' → Calls Tryz.prog 159 #[.agg #[.string (strOf k), .string (strOf r.pre), .int .u64 r.ev, .int .u64 r.bu, .int .u8 (r.kd : Int), .int .u8 K, .int .u64 A, .int .u64 Bb], .int .u64 ck] w' fun e w'' => e = .returned (.int .u64 F) ∧ Ext W w'' := fun w' h => (hFl w').mono fun e w'' h2 => ⟨h2.1, h.trans h2.2⟩
  have hst : Ext W W := Ext.refl W
  have hWd : Ext W W.drew := (Ext.refl W).drew
  have hcs := Lib.hid (And.intro c0 (And.intro c1 (And.intro c2 (And.intro c3 (And.intro c4 (And.intro c5 (And.intro c6 c7)))))))
  clear hFl c0 c1 c2 c3 c4 c5 c6 c7 p1 p2 k1 hc1
  by_cases hf : F = 0
  focus
    subst hf
  all_goals
    go_region_held3 (Ext W) (first | assumption | repeat (first | exact Ext.refl _ | assumption | apply Ext.drew | apply Ext.alloc | (refine Ext.setCell ?_ (by simp <;> omega) _) | refine Ext.trans ?_ (by assumption))) (first
      | (go_at_call 159; refine (hFl' _ (by assumption)).mono ?_; rintro e w9 ⟨rfl, hb⟩))
    have hxw9 := Lib.hid (hx0.trans hb)
    have hb9 := Lib.hid hb
    clear l0 l1 l2 l3 l4 l5 l6 l7 m1 m2 m3 hFl' hst hWd hb
  focus
    have hd := hdlH.out w9 hxw9.out
    obtain ⟨W10, hW10⟩ : ∃ W10, putMap w9 mb #[] mk = W10 := ⟨_, rfl⟩
    rw [hW10] at hd
    have hT9 := hTH.out.ext hxw9.out
    have hbt : But (fun i => i = mb) w9 W10 := hW10 ▸ putMap_but w9 mb #[] mk
    have hT10 : Hid (TabAt W10 t mo ck mb #[] mk) := Lib.hid (by
      have hn := hT9.ne
      exact ⟨hbt.cell hT9.c0 hn, hbt.cell hT9.c1 hn, hbt.cell hT9.c2 hn, hbt.free hT9.c1 hn hT9.f1, hW10 ▸ putMap_at hT9.m #[] mk⟩)
    have k2 := hT9.c2
    have hbW : But (fun i => i = mb) W W10 := (But.of_ext hb9.out).trans hbt
    have hml : mb < w.heap.size := (Array.getElem?_eq_some_iff.1 hTH.out.m).1
    have hPe := hPw.out
    have n2 : ¬ P + 2 = mb := by omega
    have n1 : ¬ P + 1 = mb := by omega
    clear hT9 hW10 hPe
  rotate_left
  focus
    obtain ⟨W10, hW10⟩ : ∃ W10, w9 = W10 := ⟨_, rfl⟩
    have hbW : But (fun i => i = mb) W W10 := hW10 ▸ But.of_ext hb9.out
    have hml : mb < w.heap.size := (Array.getElem?_eq_some_iff.1 hTH.out.m).1
    have hPe := hPw.out
    have n2 : ¬ P + 2 = mb := by omega
    have n1 : ¬ P + 1 = mb := by omega
    have hx10 : Hid (Ext w W10) := Lib.hid (hW10 ▸ hxw9.out)
    rw [hW10]
    clear hW10 hPe
  rotate_left
  all_goals
    obtain ⟨c0, c1, c2, c3, c4, c5, c6, c7⟩ := hcs.out
    have d0 := hbW.cell c0 n2
    have d1 := hbW.cell c1 n2
    have d2 := hbW.cell c2 n2
    have d3 := hbW.cell c3 n2
    have d4 := hbW.cell c4 n2
    have d5 := hbW.cell c5 n2
    have d6 := hbW.cell c6 n2
    have d7 := hbW.cell c7 n2
    obtain ⟨⟨z0, z1, z2, z3, z4, z5, z6, z7⟩, f0, f1, f2, f3, f4, f5, f6, f7⟩ := z.out
    have e0 := hbW.free z0 n1 f0
    have e1 := hbW.free z1 n1 f1
    have e2 := hbW.free z2 n1 f2
    have e3 := hbW.free z3 n1 f3
    have e4 := hbW.free z4 n1 f4
    have e5 := hbW.free z5 n1 f5
    have e6 := hbW.free z6 n1 f6
    have e7 := hbW.free z7 n1 f7
    have y0 := hbW.cell z0 n1
    have y1 := hbW.cell z1 n1
    have y2 := hbW.cell z2 n1
    have y3 := hbW.cell z3 n1
    have y4 := hbW.cell z4 n1
    have y5 := hbW.cell z5 n1
    have y6 := hbW.cell z6 n1
    have y7 := hbW.cell z7 n1
    clear c0 c1 c2 c3 c4 c5 c6 c7 z0 z1 z2 z3 z4 z5 z6 z7 f0 f1 f2 f3 f4 f5 f6 f7 hbW z hcs
    have hS := Lib.hid (sl_store W10 (P + 1) (strOf k) (strOf r.pre) r.ev r.bu (r.kd : Int) K A Bb ⟨_, _, _, _, _, _, _, _, y0, y1, y2, y3, y4, y5, y6, y7⟩)
    go_wp2
    obtain ⟨h1, h2⟩ := hS.out _ rfl
  focus
    refine bodyPost_ret (ret_slot rfl rfl h2) rfl ?_
    have hb2 : But (fun i => i = mb) w _ := (((But.of_ext hxw9.out).trans hbt)).fresh h1 (by rintro i rfl; have := hPw.out; omega)
    have hT2 := hT10.out.but h1 (by omega) (fun e => n1 e.symm)
    first
      | exact ⟨rfl, hT2, hb2⟩
      | exact ⟨fun h => (h rfl).elim, fun _ => ⟨rfl, hT2, hb2⟩⟩
  refine bodyPost_ret (ret_slot rfl rfl h2) rfl ?_
  have hb2 : Ext w _ := (((But.of_ext (S := fun _ => False) hx10.out)).fresh h1 (by rintro i rfl; have := hPw.out; omega)).ext (Ext.refl _) (fun _ h => h.elim)
  first
    | exact ⟨rfl, hb2⟩
    | exact ⟨fun _ => ⟨rfl, hb2⟩, fun h => (hf h).elim⟩

theorem saysY (t : Nat) (mo ck : Int) (mb mk j : Nat) (k : List UInt8) (r : Rl) (hr : okR r) (hc : U ck) (K A B : Int) (hA : U A) (hB : U B) (hf : fil K A B ck (r.ev * r.bu) ≠ 0) (w : World) (hT : TabAt w t mo ck mb #[one1 k r K A B j] mk) :
    SlotSays t mo ck mb #[one1 k r K A B j] mk k r (slotV (strOf k) r K A B) true w :=
  fun w' hx => (pSlotX t mo ck mb mk j k r hr hc K A B hA hB w' (hT.ext hx)).mono fun e w'' h => ⟨(h.1 hf).1, (hT.ext hx).ext (h.1 hf).2, But.of_ext (h.1 hf).2⟩
theorem saysG (t : Nat) (mo ck : Int) (mb mk j : Nat) (k : List UInt8) (r : Rl) (hr : okR r) (hc : U ck) (K A B : Int) (hA : U A) (hB : U B) (hf : fil K A B ck (r.ev * r.bu) = 0) (w : World) (hT : TabAt w t mo ck mb #[one1 k r K A B j] mk) :
    SlotSays t mo ck mb #[] mk k r (slotV (strOf k) r K A B) false w :=
  fun w' hx => (pSlotX t mo ck mb mk j k r hr hc K A B hA hB w' (hT.ext hx)).mono fun e w'' h => h.2 hf

end Go.Proofs.YtdgcgpapcbjfhaaGreatDoor
