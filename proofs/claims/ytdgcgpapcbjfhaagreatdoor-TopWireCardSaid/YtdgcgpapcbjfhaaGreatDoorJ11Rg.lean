/- A range over a function whose iterator keeps cells of its own that lay ahead of the loop; a round may leave by a break. -/
import Derived.Test.YtdgcgpapcbjfhaaGreatDoorJ04Lines
import Derived.Test.YtdgcgpapcbjfhaaGreatDoorJ03DigR
import Derived.Test.YtdgcgpapcbjfhaaGreatDoorJ10LKey
import Derived.MapKept
import Derived.Carry
import Derived.RangeFuncNested
import Derived.RangeFuncBound
import Derived.RangeFuncLeaves
import Derived.Shelf.RegionOpen
import Derived.OwnWalkIn
import Derived.TacticsInMore
import Derived.LoopIn
set_option linter.unusedVariables false
set_option linter.unusedSimpArgs false

/- Words in memory; a world that has turned in some blocks alone. -/
namespace Go.Proofs.YtdgcgpapcbjfhaaGreatDoor
open Go.RowKit

/-- from w on the world has grown; of what was there only blocks in S have turned -/
structure But (S : Nat → Prop) (w w' : World) : Prop where
  os : w'.os = w.os
  tape : w'.tape = w.tape
  output : w'.output = w.output
  size : w.heap.size ≤ w'.heap.size
  block : ∀ k, k < w.heap.size → ¬ S k → w'.heap[k]? = w.heap[k]?

theorem But.refl (S : Nat → Prop) (w : World) : But S w w := ⟨rfl, rfl, rfl, Nat.le_refl _, fun _ _ _ => rfl⟩
theorem But.trans {S : Nat → Prop} {a b c : World} (h : But S a b) (k : But S b c) : But S a c :=
  ⟨k.os.trans h.os, k.tape.trans h.tape, k.output.trans h.output, Nat.le_trans h.size k.size, fun i hi hn => (k.block i (Nat.lt_of_lt_of_le hi h.size) hn).trans (h.block i hi hn)⟩
theorem But.mono {S T : Nat → Prop} {a b : World} (h : But S a b) (hs : ∀ k, S k → T k) : But T a b :=
  ⟨h.os, h.tape, h.output, h.size, fun i hi hn => h.block i hi fun hh => hn (hs i hh)⟩
theorem But.of_ext {S : Nat → Prop} {a b : World} (h : Ext a b) : But S a b := ⟨h.os, h.tape, h.output, h.size, fun i hi _ => h.block i hi⟩
theorem But.drew {S : Nat → Prop} {a b : World} (h : But S a b) : But S a b.drew := ⟨h.os, h.tape, h.output, h.size, h.block⟩
theorem But.alloc {S : Nat → Prop} {a b : World} (h : But S a b) (o : Obj) : But S a (b.alloc o) := h.trans (But.of_ext ((Ext.refl b).alloc o))
theorem But.grown {S : Nat → Prop} {a b c : World} {row : Option Nat} (h : But S a b) (hg : b.grownBy c row) (hr : ∀ k, row = some k → S k) : But S a c :=
  h.trans ⟨hg.os, hg.tape, hg.output, hg.size, fun i hi hn => hg.block i hi fun e => hn (hr i e.symm)⟩
theorem But.setCell {S : Nat → Prop} {a b : World} (h : But S a b) {p : Addr} (hp : S p.block) (u : Value) : But S a (b.setCell p u) := by
  refine h.trans ?_
  have hb : Below 0 b (b.setCell p u) := Below.setCell (Below.refl 0 b) (Nat.zero_le _) u
  refine ⟨hb.os, hb.tape, hb.output, hb.size, ?_⟩
  intro k hk hn
  have hne : p.block ≠ k := fun e => hn (e ▸ hp)
  simp [World.setCell, Array.getElem?_modify]
  exact fun e => absurd e hne

theorem But.cell {S : Nat → Prop} {a b : World} (h : But S a b) {p : Addr} {v : Value} (hc : a.cell? p = some v) (hp : ¬ S p.block) : b.cell? p = some v :=
  (World.cell?_of_block (h.block p.block (World.block_lt_of_cell? a p hc) hp)).trans hc
theorem But.free {S : Nat → Prop} {a b : World} (h : But S a b) {p : Addr} {v : Value} (hc : a.cell? p = some v) (hp : ¬ S p.block) (hf : a.frozen? p = false) : b.frozen? p = false := by
  rw [World.frozen?_of_block (h.block p.block (World.block_lt_of_cell? a p hc) hp)]; exact hf
theorem But.ext {S : Nat → Prop} {w0 a b : World} (h : But S a b) (hx : Ext w0 a) (hs : ∀ k, S k → w0.heap.size ≤ k) : Ext w0 b :=
  ⟨h.os.trans hx.os, h.tape.trans hx.tape, h.output.trans hx.output, Nat.le_trans hx.size h.size, fun i hi => (h.block i (Nat.lt_of_lt_of_le hi hx.size) fun hh => by have := hs i hh; omega).trans (hx.block i hi)⟩
theorem But.owns {S : Nat → Prop} {a b : World} (h : But S a b) {base n size : Nat} {e : TypeId} {v : Value} {xs : List Value} (ho : a.ownsRow base e size v n xs) (hs : ∀ k, v.ownBlock = some k → ¬ S k) : b.ownsRow base e size v n xs := by
  refine ⟨ho.1, ?_⟩
  rcases ho.2 with hn | ⟨g, cap, cur, rfl, hb, hgg, rest⟩
  · exact .inl hn
  · refine .inr ⟨g, cap, cur, rfl, hb, ?_, rest⟩
    rw [h.block g (Array.getElem?_eq_some_iff.1 hgg).1 (hs g rfl)]
    exact hgg
theorem owns_mono {w : World} {base base' n size : Nat} {e : TypeId} {v : Value} {xs : List Value} (ho : w.ownsRow base e size v n xs) (h : base' ≤ base) : w.ownsRow base' e size v n xs := by
  refine ⟨ho.1, ?_⟩
  rcases ho.2 with hn | ⟨g, cap, cur, rfl, hb, hgg, rest⟩
  · exact .inl hn
  · exact .inr ⟨g, cap, cur, rfl, by omega, hgg, rest⟩
/-- rows of different types share no block -/
theorem owns_apart {w : World} {b1 b2 n1 n2 s1 s2 : Nat} {e1 e2 : TypeId} {v1 v2 : Value} {x1 x2 : List Value} (h1 : w.ownsRow b1 e1 s1 v1 n1 x1) (h2 : w.ownsRow b2 e2 s2 v2 n2 x2) (he : e1 ≠ e2) :
    ∀ k, v1.ownBlock = some k → v2.ownBlock ≠ some k := by
  intro k hk hk2
  rcases h1.2 with ⟨rfl, _⟩ | ⟨g, cap, cur, rfl, hb, hg, _⟩
  · simp [Value.ownBlock] at hk
  rcases h2.2 with ⟨rfl, _⟩ | ⟨g', cap', cur', rfl, hb', hg', _⟩
  · simp [Value.ownBlock] at hk2
  simp [Value.ownBlock] at hk hk2
  subst hk; subst hk2
  rw [hg] at hg'
  simp at hg'
  exact he hg'.2

/-- the cells of words -/
def wdCells : List Wd → List Value
  | [] => []
  | w :: ws => .string (strOf w.txt) :: .int .i64 (w.ln : Int) :: .int .i64 (w.col : Int) :: wdCells ws
theorem wdCells_len : ∀ ws : List Wd, (wdCells ws).length = ws.length * 3
  | [] => rfl
  | w :: ws => by simp [wdCells, wdCells_len ws]; omega
theorem wdCells_app : ∀ (a b : List Wd), wdCells (a ++ b) = wdCells a ++ wdCells b
  | [], b => rfl
  | w :: ws, b => by simp [wdCells, wdCells_app ws b]
def noWd : Wd := ⟨[], 0, 0⟩
theorem wdCells_get : ∀ (ws : List Wd) (i : Nat), i < ws.length → (wdCells ws)[i * 3]? = some (.string (strOf (ws.getD i noWd).txt)) ∧ (wdCells ws)[i * 3 + 1]? = some (.int .i64 ((ws.getD i noWd).ln : Int)) ∧ (wdCells ws)[i * 3 + 2]? = some (.int .i64 ((ws.getD i noWd).col : Int))
  | [], i, h => by simp at h
  | w :: ws, 0, h => by simp [wdCells]
  | w :: ws, i + 1, h => by
    have := wdCells_get ws i (by simpa using h)
    rw [show (i + 1) * 3 = i * 3 + 3 by omega]
    simpa [wdCells] using this
theorem wdCells_one (ws : List Wd) : ∀ u ∈ wdCells ws, u.oneCell' = true := by
  induction ws with
  | nil => simp [wdCells]
  | cons w ws ih =>
    intro u hu
    simp [wdCells] at hu
    rcases hu with rfl | rfl | rfl | hu
    · rfl
    · rfl
    · rfl
    · exact ih u hu

/-- a line of words in memory -/
def RowO (w : World) (base : Nat) (v : Value) (ws : List Wd) : Prop := w.ownsRow base 97 3 v ws.length (wdCells ws)
def RowAt (w : World) (v : Value) (ws : List Wd) : Prop := RowO w 0 v ws
/-- lines of words in memory -/
def LinesAt (w : World) (v : Value) (ls : List (List Wd)) : Prop := ∃ vs : List Value, vs.length = ls.length ∧ w.ownsRow 0 95 1 v ls.length vs ∧ ∀ i, i < ls.length → RowAt w (vs.getD i undef) (ls.getD i [])

theorem owns_ext {w w' : World} {base n size : Nat} {e : TypeId} {v : Value} {xs : List Value} (ho : w.ownsRow base e size v n xs) (h : Ext w w') : w'.ownsRow base e size v n xs :=
  (But.of_ext (S := fun _ => False) h).owns ho fun _ _ h => h
theorem LinesAt.ext {w w' : World} {v : Value} {ls : List (List Wd)} (h : LinesAt w v ls) (hx : Ext w w') : LinesAt w' v ls := by
  obtain ⟨vs, h1, h2, h3⟩ := h
  exact ⟨vs, h1, owns_ext h2 hx, fun i hi => owns_ext (h3 i hi) hx⟩
theorem LinesAt.nil (w : World) : LinesAt w (.slice none 0 0) [] := ⟨[], rfl, World.ownsRow_nil _ _ _ _, by simp⟩

/-- lines of words in memory, the call's own -/
def LinesO (w : World) (base : Nat) (v : Value) (vs : List Value) (ls : List (List Wd)) : Prop :=
  vs.length = ls.length ∧ w.ownsRow base 95 1 v ls.length vs ∧ ∀ i, i < ls.length → RowO w base (vs.getD i undef) (ls.getD i [])
theorem LinesO.nil (w : World) (base : Nat) : LinesO w base (.slice none 0 0) [] [] := ⟨rfl, World.ownsRow_nil _ _ _ _, by simp⟩
theorem LinesO.ext {w w' : World} {base : Nat} {v : Value} {vs : List Value} {ls : List (List Wd)} (h : LinesO w base v vs ls) (hx : Ext w w') : LinesO w' base v vs ls :=
  ⟨h.1, owns_ext h.2.1 hx, fun i hi => owns_ext (h.2.2 i hi) hx⟩
theorem LinesO.at {w : World} {base : Nat} {v : Value} {vs : List Value} {ls : List (List Wd)} (h : LinesO w base v vs ls) : LinesAt w v ls := ⟨vs, h.1, owns_mono h.2.1 (Nat.zero_le _), fun i hi => owns_mono (h.2.2 i hi) (Nat.zero_le _)⟩
theorem LinesO.but {S : Nat → Prop} {w w' : World} {base : Nat} {v : Value} {vs : List Value} {ls : List (List Wd)} (h : LinesO w base v vs ls) (hb : But S w w') (hs : ∀ k, S k → k < base) : LinesO w' base v vs ls := by
  have hl : ∀ {e : TypeId} {size n : Nat} {y : Value} {xs : List Value}, w.ownsRow base e size y n xs → ∀ k, y.ownBlock = some k → ¬ S k := fun hy k hk hk2 => by
    have := hs k hk2; have := (hy.lt k hk).1; omega
  exact ⟨h.1, hb.owns h.2.1 (hl h.2.1), fun i hi => hb.owns (h.2.2 i hi) (hl (h.2.2 i hi))⟩

theorem LinesO.app {w w1 : World} {base : Nat} {v v' x : Value} {vs : List Value} {ls : List (List Wd)} {r : List Wd} {o : Obj} (h : LinesO w base v vs ls) (hr : RowO w base x r) (hg : (w.alloc o).grownBy w1 v.ownBlock)
    (hown : w1.ownsRow base 95 1 v' (ls.length + 1) (vs ++ [x])) : LinesO w1 base v' (vs ++ [x]) (ls ++ [r]) := by
  obtain ⟨h1, h2, h3⟩ := h
  have hbut : But (fun k => v.ownBlock = some k) w w1 := ((But.refl _ w).alloc o).grown hg fun k hk => hk
  have keep : ∀ y q, RowO w base y q → RowO w1 base y q := fun y q hy => hbut.owns hy fun k hk hk2 => owns_apart hy h2 (by decide) k hk hk2
  refine ⟨by simp [h1], by rw [List.length_append]; exact hown, fun i hi => ?_⟩
  by_cases hl : i < ls.length
  · have e1 : (vs ++ [x]).getD i undef = vs.getD i undef := by simp [List.getD, List.getElem?_append, h1, hl]
    have e2 : (ls ++ [r]).getD i [] = ls.getD i [] := by simp [List.getD, List.getElem?_append, hl]
    rw [e1, e2]; exact keep _ _ (h3 i hl)
  · have hi' : i = ls.length := by simp at hi; omega
    subst hi'
    have e1 : (vs ++ [x]).getD ls.length undef = x := by rw [← h1]; simp [List.getD]
    have e2 : (ls ++ [r]).getD ls.length [] = r := by simp [List.getD]
    rw [e1, e2]; exact keep _ _ hr

/-- what a line's cells read -/
theorem RowAt.cells {w : World} {v : Value} {ws : List Wd} (h : RowAt w v ws) (hn : ws ≠ []) : ∃ g cp, v = .slice (some ⟨g, 0, none⟩) ws.length cp ∧ ws.length ≤ cp ∧ cp ≤ maxLen ∧
    ∀ i, i < ws.length → w.cell? ⟨g, i * 3, none⟩ = some (.string (strOf (ws.getD i noWd).txt)) ∧ w.cell? ⟨g, i * 3 + 1, none⟩ = some (.int .i64 ((ws.getD i noWd).ln : Int)) ∧ w.cell? ⟨g, i * 3 + 2, none⟩ = some (.int .i64 ((ws.getD i noWd).col : Int)) := by
  have hpos : 0 < ws.length := Nat.pos_of_ne_zero fun h => hn (List.eq_nil_of_length_eq_zero h)
  rcases h.2 with ⟨_, h2⟩ | ⟨g, cp, cur, rfl, hg, hh, hnc, hcm, hsz, htake⟩
  · omega
  refine ⟨g, cp, rfl, hnc, hcm, fun i hi => ?_⟩
  have hA := World.ownsRow.cellAt (base := 0) (h := ⟨h.1, .inr ⟨g, cp, cur, rfl, hg, hh, hnc, hcm, hsz, htake⟩⟩)
  have hw := wdCells_get ws i hi
  refine ⟨?_, ?_, ?_⟩
  · rw [hA _ (by omega)]; exact hw.1
  · rw [hA _ (by omega)]; exact hw.2.1
  · rw [hA _ (by omega)]; exact hw.2.2

theorem infoW : (Tryz.prog.info? 97).map (fun i => (i.zero, i.size, i.bytes)) = some (some (.agg #[.string ⟨#[]⟩, .int .i64 0, .int .i64 0]), 3, 32) := by kernel_rfl
theorem infoL : (Tryz.prog.info? 95).map (fun i => (i.zero, i.size, i.bytes)) = some (some (.slice none 0 0), 1, 24) := by kernel_rfl

end Go.Proofs.YtdgcgpapcbjfhaaGreatDoor

/- Maps in memory: a look, a new row, a row turned. -/
namespace Go.Proofs.YtdgcgpapcbjfhaaGreatDoor
open Go.RowKit

theorem ckStr {P : Program} {K : TypeId} (hK : P.underlying K = some .string) (b : Bool) (s : ByteArray) (w : World) : (Instr.checkKey b 10000 K (.string s)).run P w = .ok () w := by
  rw [Instr.checkKey]
  simp [Sem.run_bind, run_underlying hK, Result.andThen]
theorem ckInt {P : Program} {K : TypeId} {k : IntKind} (hK : P.underlying K = some (.int k)) (b : Bool) (j : IntKind) (n : Int) (w : World) : (Instr.checkKey b 10000 K (.int j n)).run P w = .ok () w := by
  rw [Instr.checkKey]
  simp [Sem.run_bind, run_underlying hK, Result.andThen]

theorem lookY {P : Program} {T K E : TypeId} {kd : TypeDesc} {W : World} {r : Nat} {es : Array MapEntry} {ck : Nat} {k v : Value} {i : Nat} (hT : P.underlying T = some (.map K E)) (hK : P.underlying K = some kd)
    (hck : ∀ b w, (Instr.checkKey b 10000 K k).run P w = .ok () w) (hb : W.heap[r]? = some (.map es ck)) (hf : Instr.findNow kd k es.toList 0 = some (some (i, v))) (ok : Bool) :
    (Instr.lookup T (.map (some r)) k ok).run P W = .ok (if ok then .tuple #[v, .bool true] else v) W := by
  have h1 := hck es.isEmpty
  simp only [Instr.lookup, Sem.run_bind, run_underlying hT, MapKept.run_getObj_map hb, Result.andThen, Sem.run_pure]
  simp [h1, Result.andThen, Instr.findKey, run_underlying hK, hf]
theorem lookN {P : Program} {T K E : TypeId} {kd : TypeDesc} {W : World} {r : Nat} {es : Array MapEntry} {ck : Nat} {k z : Value} (hT : P.underlying T = some (.map K E)) (hK : P.underlying K = some kd)
    (hck : ∀ b w, (Instr.checkKey b 10000 K k).run P w = .ok () w) (hb : W.heap[r]? = some (.map es ck)) (hf : Instr.findNow kd k es.toList 0 = some none) (hz : ∀ w, (zeroValue E).run P w = .ok z w) (ok : Bool) :
    (Instr.lookup T (.map (some r)) k ok).run P W = .ok (if ok then .tuple #[z, .bool false] else z) W := by
  have h1 := hck es.isEmpty
  simp only [Instr.lookup, Sem.run_bind, run_underlying hT, MapKept.run_getObj_map hb, Result.andThen, Sem.run_pure]
  simp [h1, Result.andThen, Instr.findKey, run_underlying hK, hf, hz]

/-- the world with another map in a block -/
def putMap (W : World) (r : Nat) (es : Array MapEntry) (ck : Nat) : World := { W with heap := W.heap.setIfInBounds r (.map es ck) }
theorem putMap_at {W : World} {r : Nat} {o : Obj} (hb : W.heap[r]? = some o) (es : Array MapEntry) (ck : Nat) : (putMap W r es ck).heap[r]? = some (.map es ck) := by
  have hlt : r < W.heap.size := (Array.getElem?_eq_some_iff.1 hb).1
  simp [putMap, hlt]
theorem putMap_but (W : World) (r : Nat) (es : Array MapEntry) (ck : Nat) : But (fun x => x = r) W (putMap W r es ck) := by
  refine ⟨rfl, rfl, rfl, by simp [putMap], fun k hk hn => ?_⟩
  have : r ≠ k := fun e => hn e.symm
  simp [putMap, this]

theorem insN {P : Program} {T K E : TypeId} {kd : TypeDesc} {W : World} {r : Nat} {es : Array MapEntry} {ck : Nat} {k : Value} (val : Value) (hT : P.underlying T = some (.map K E)) (hK : P.underlying K = some kd)
    (hck : ∀ b w, (Instr.checkKey b 10000 K k).run P w = .ok () w) (hb : W.heap[r]? = some (.map es ck)) (hf : Instr.findNow kd k es.toList 0 = some none) :
    (Instr.mapUpdate T (.map (some r)) k val).run P W = .ok () (putMap W r (es.push { key := k, val := val, born := ck }) (ck + 1)) := by
  have h1 := hck false
  simp only [Instr.mapUpdate, Sem.run_bind, run_underlying hT, MapKept.run_getObj_map hb, Result.andThen]
  rw [h1]
  simp [MapKept.run_setObj_map _ hb, Result.andThen, Instr.findKey, run_underlying hK, hf, putMap]
theorem insY {P : Program} {T K E : TypeId} {kd : TypeDesc} {W : World} {r : Nat} {es : Array MapEntry} {ck : Nat} {k v : Value} {i : Nat} (val : Value) (hT : P.underlying T = some (.map K E)) (hK : P.underlying K = some kd)
    (hck : ∀ b w, (Instr.checkKey b 10000 K k).run P w = .ok () w) (hb : W.heap[r]? = some (.map es ck)) (hf : Instr.findNow kd k es.toList 0 = some (some (i, v))) (hs : Instr.sameBits 10000 (((es[i]?).map (·.key)).getD k) k = true) :
    (Instr.mapUpdate T (.map (some r)) k val).run P W = .ok () (putMap W r (es.modify i fun e => { e with key := k, val := val }) ck) := by
  have h1 := hck false
  simp only [Instr.mapUpdate, Sem.run_bind, run_underlying hT, MapKept.run_getObj_map hb, Result.andThen]
  rw [h1]
  simp [MapKept.run_setObj_map _ hb, Result.andThen, Instr.findKey, run_underlying hK, hf, putMap, Instr.keyThatStays, hs]

theorem findS' (s k : ByteArray) (e : MapEntry) (es : List MapEntry) (i : Nat) (he : e.key = .string k) : Instr.findNow .string (.string s) (e :: es) i = if (s == k) = true then some (some (i, e.val)) else Instr.findNow .string (.string s) es (i + 1) := by
  conv => lhs; unfold Instr.findNow
  rw [he]
  show (match some (s == k) with | some true => some (some (i, e.val)) | some false => Instr.findNow .string (.string s) es (i + 1) | none => none) = _
  cases (s == k) <;> rfl
theorem strOf_beq' (a b : List UInt8) : (strOf a == strOf b) = decide (a = b) := by
  have h : (strOf a == strOf b) = ((strOf a).data == (strOf b).data) := rfl
  rw [h, Bool.eq_iff_iff, beq_iff_eq, decide_eq_true_iff]
  simp [strOf]
/-- a text among a map's keys -/
theorem findT (t : List UInt8) : ∀ (es : List MapEntry) (ks : List (List UInt8)) (i : Nat), es.map (·.key) = ks.map (fun k => Value.string (strOf k)) →
    (t ∉ ks → Instr.findNow .string (.string (strOf t)) es i = some none) ∧ (t ∈ ks → ∃ j e, e ∈ es ∧ es[j]? = some e ∧ e.key = .string (strOf t) ∧ Instr.findNow .string (.string (strOf t)) es i = some (some (i + j, e.val)))
  | [], [], i, _ => ⟨fun _ => rfl, fun h => by simp at h⟩
  | [], _ :: _, i, h => by simp at h
  | _ :: _, [], i, h => by simp at h
  | e :: es, k :: ks, i, h => by
    simp at h
    obtain ⟨ih1, ih2⟩ := findT t es ks (i + 1) h.2
    have hf := findS' (strOf t) (strOf k) e es i h.1
    rw [strOf_beq'] at hf
    refine ⟨fun hn => ?_, fun hm => ?_⟩
    · simp at hn
      rw [hf, if_neg (by simpa using hn.1)]
      exact ih1 hn.2
    · by_cases c : t = k
      · subst c
        rw [if_pos (by simp)] at hf
        exact ⟨0, e, by simp, by simp, h.1, by rw [hf]; rfl⟩
      · rw [if_neg (by simpa using c)] at hf
        obtain ⟨j, e', h1, h2, h3, h4⟩ := ih2 (by simp at hm; exact hm.resolve_left c)
        exact ⟨j + 1, e', by simp [h1], by simpa using h2, h3, by rw [hf, h4]; congr 3; omega⟩

theorem findI' (n k : Int) (e : MapEntry) (es : List MapEntry) (i : Nat) (he : e.key = .int .u8 k) : Instr.findNow (.int .u8) (.int .u8 n) (e :: es) i = if n = k then some (some (i, e.val)) else Instr.findNow (.int .u8) (.int .u8 n) es (i + 1) := by
  conv => lhs; unfold Instr.findNow
  rw [he]
  by_cases c : n = k
  · subst c; rw [if_pos rfl]; simp [Instr.sameNow]
  · rw [if_neg c]
    simp only [Instr.sameNow, if_true]
    rw [show (n == k) = false from beq_eq_false_iff_ne.2 c]
/-- a byte among a map's keys -/
theorem findB (n : Int) : ∀ (es : List MapEntry) (ks : List Int) (i : Nat), es.map (·.key) = ks.map (fun k => Value.int .u8 k) →
    (n ∉ ks → Instr.findNow (.int .u8) (.int .u8 n) es i = some none) ∧ (n ∈ ks → ∃ j e, e ∈ es ∧ es[j]? = some e ∧ e.key = .int .u8 n ∧ Instr.findNow (.int .u8) (.int .u8 n) es i = some (some (i + j, e.val)))
  | [], [], i, _ => ⟨fun _ => rfl, fun h => by simp at h⟩
  | [], _ :: _, i, h => by simp at h
  | _ :: _, [], i, h => by simp at h
  | e :: es, k :: ks, i, h => by
    simp at h
    obtain ⟨ih1, ih2⟩ := findB n es ks (i + 1) h.2
    have hf := findI' n k e es i h.1
    refine ⟨fun hn => ?_, fun hm => ?_⟩
    · simp at hn
      rw [hf, if_neg hn.1]
      exact ih1 hn.2
    · by_cases c : n = k
      · subst c
        rw [if_pos rfl] at hf
        exact ⟨0, e, by simp, by simp, h.1, by rw [hf]; rfl⟩
      · rw [if_neg c] at hf
        obtain ⟨j, e', h1, h2, h3, h4⟩ := ih2 (by simp at hm; exact hm.resolve_left c)
        exact ⟨j + 1, e', by simp [h1], by simpa using h2, h3, by rw [hf, h4]; congr 3; omega⟩

end Go.Proofs.YtdgcgpapcbjfhaaGreatDoor

/- A range over a function whose iterator keeps cells of its own that lay ahead of the loop; a round may leave by a break. -/
namespace Go.Proofs.YtdgcgpapcbjfhaaGreatDoor
open Go.RowKit

/-- Nothing below n, nothing from m on, and nothing of T, has turned. -/
structure Kept (n m : Nat) (T : Nat → Prop) (A B : World) : Prop where
  below : Below n A B
  beyond : ∀ k, m ≤ k → k < A.heap.size → B.heap[k]? = A.heap[k]?
  these : ∀ k, T k → k < A.heap.size → B.heap[k]? = A.heap[k]?

theorem Kept.refl (n m : Nat) (T : Nat → Prop) (A : World) : Kept n m T A A := ⟨Below.refl _ _, fun _ _ _ => rfl, fun _ _ _ => rfl⟩

theorem Kept.trans {n m : Nat} {T : Nat → Prop} {A B C : World} (h : Kept n m T A B) (k : Kept n m T B C) : Kept n m T A C :=
  ⟨h.below.trans k.below, fun i hi hl => (k.beyond i hi (Nat.lt_of_lt_of_le hl h.below.size)).trans (h.beyond i hi hl), fun i hi hl => (k.these i hi (Nat.lt_of_lt_of_le hl h.below.size)).trans (h.these i hi hl)⟩

theorem Kept.mono {n n' m m' : Nat} {T : Nat → Prop} {A B : World} (h : Kept n m T A B) (hn : n' ≤ n) (hm : m ≤ m') : Kept n' m' T A B :=
  ⟨h.below.mono hn, fun i hi hl => h.beyond i (Nat.le_trans hm hi) hl, h.these⟩

theorem Kept.ext {n m : Nat} {T : Nat → Prop} {A B : World} (h : Ext A B) (hn : n ≤ A.heap.size) : Kept n m T A B :=
  ⟨Below.mono h hn, fun i _ hl => Below.block h i hl, fun i _ hl => Below.block h i hl⟩

theorem Kept.of_below {n m : Nat} {T : Nat → Prop} {A B : World} (h : Kept n m (fun _ => False) A B) (hT : ∀ k, T k → k < n) : Kept n m T A B :=
  ⟨h.below, h.beyond, fun i hi _ => Below.block h.below i (hT i hi)⟩

theorem Kept.of_beyond {n m m' : Nat} {T T' : Nat → Prop} {A B : World} (h : Kept n m T' A B) (hm : m ≤ m') (hT : ∀ k, T k → m ≤ k) : Kept n m' T A B :=
  ⟨h.below, fun i hi hl => h.beyond i (Nat.le_trans hm hi) hl, fun i hi hl => h.beyond i (hT i hi) hl⟩

theorem Kept.setCell (n m : Nat) (T : Nat → Prop) (W : World) (p : Addr) (v : Value) (hn : n ≤ p.block) (hm : p.block < m) (hT : ¬ T p.block) : Kept n m T W (W.setCell p v) :=
  ⟨(Below.refl n W).setCell hn v, fun k hk _ => Below.heap_setCell W p v k (by omega), fun k hk _ => Below.heap_setCell W p v k (fun e => hT (e ▸ hk))⟩

theorem below_putObj (n : Nat) (W : World) (k : Nat) (o : Obj) (h : n ≤ k) : Below n W (W.putObj k o) :=
  ⟨rfl, rfl, rfl, by simp, fun i hi => World.putObj_heap_other (by omega)⟩

theorem Kept.putObj (n m : Nat) (T : Nat → Prop) (W : World) (k : Nat) (o : Obj) (hn : n ≤ k) (hm : k < m) (hT : ∀ j, T j → j < k) : Kept n m T W (W.putObj k o) :=
  ⟨below_putObj n W k o hn, fun i hi _ => World.putObj_heap_other (by omega), fun i hi _ => World.putObj_heap_other (by have := hT i hi; omega)⟩

theorem cell_of_block {A B : World} {p : Addr} {v : Value} (hb : B.heap[p.block]? = A.heap[p.block]?) (hc : A.cell? p = some v) : B.cell? p = some v := by
  unfold World.cell? at hc ⊢
  rw [hb]; exact hc

theorem frozen_of_block {A B : World} {p : Addr} (hb : B.heap[p.block]? = A.heap[p.block]?) : B.frozen? p = A.frozen? p := by
  unfold World.frozen?
  rw [hb]

theorem Kept.cell {n m : Nat} {T : Nat → Prop} {A B : World} (h : Kept n m T A B) {p : Addr} {v : Value} (hm : m ≤ p.block) (hc : A.cell? p = some v) : B.cell? p = some v :=
  cell_of_block (h.beyond p.block hm (World.block_lt_of_cell? A _ hc)) hc

theorem Kept.cellT {n m : Nat} {T : Nat → Prop} {A B : World} (h : Kept n m T A B) {p : Addr} {v : Value} (hm : T p.block) (hc : A.cell? p = some v) : B.cell? p = some v :=
  cell_of_block (h.these p.block hm (World.block_lt_of_cell? A _ hc)) hc

theorem But.putObj (W : World) (k : Nat) (o : Obj) : But (fun x => x = k) W (W.putObj k o) :=
  ⟨rfl, rfl, rfl, by simp, fun i hi hn => World.putObj_heap_other (by omega)⟩

/-- An iterator's word: what it hands over, one by one, is as Qx says; Fin: of what it has handed over when it ends. T: a round leaves these blocks alone; Z: the iterator may turn these. -/
def GivesG {α : Type} (P : Program) (f : Nat) (lb : Array Value) (encs : α → Array Value) (n₀ : Nat) (T Z : Nat → Prop) (Qx : List α → α → Prop) (Fin : List α → Prop) (w0 : World) : Prop :=
  ∀ (l : Nat) (J : List α → World → Prop) (Jx : World → Prop) (W : World), Below w0.heap.size w0 W → w0.heap.size ≤ l → l < W.heap.size →
    (∀ pre A B, J pre A → But (fun k => l + 1 ≤ k ∨ Z k) A B → J pre B) → (∀ A B, Jx A → But (fun k => l + 1 ≤ k ∨ Z k) A B → Jx B) →
    (∀ pre x W1, J pre W1 → Qx pre x → YieldAt Fence.wide 0 P l (encs x) W1 fun e W' => (e = .returned (.bool true) ∧ J (pre ++ [x]) W' ∧ Kept n₀ (l + 1) T W1 W') ∨ (e = .returned (.bool false) ∧ Jx W')) →
    J [] W → CallsIn Fence.wide 0 P f (#[.func (.yield l) #[] #[]] ++ lb) W fun e W' => (∃ v, e = .returned v) ∧ ((∃ ys, Fin ys ∧ J ys W') ∨ Jx W')

/-- how a round ends -/
def roundEnd {α : Type} (n₀ m : Nat) (T : Nat → Prop) (I : List α → World → Prop) (Ix : Nat → World → Prop) (ys : List α) (W2 : World) : Exit → Act → World → Prop
  | .normal, _, W3 => Kept n₀ m T W2 W3 ∧ I ys W3
  | .exit id, _, W3 => Kept n₀ m T W2 W3 ∧ Ix id W3
  | _, _, _ => False

theorem wp_rangeFunc_g {α : Type} {P : Program} {g : Operand} {ps : Array Tmp} {assign body : Code} {Q : Exit → Act → World → Prop} {a : Act} {w : World} {gf : Nat} {lb : Array Value}
    (hg : a.eval g = .func (.func gf) #[] lb) (eg : ∀ args w, (callFunc gf args).run P w = .ok (.enter gf args) w)
    {encs : α → Array Value} {n₀ : Nat} {T Z : Nat → Prop} {Qx : List α → α → Prop} {Fin : List α → Prop} {w0 : World} (hseq : GivesG P gf lb encs n₀ T Z Qx Fin w0) (hT : ∀ k, T k → k < w.heap.size) (hZ : ∀ k, Z k → k < w.heap.size) (hb0 : Below w0.heap.size w0 w) (hn : n₀ ≤ w.heap.size) (hps : ∀ x, (encs x).size = ps.size)
    (I : List α → World → Prop) (Ix : Nat → World → Prop) (hI : ∀ pre A B, I pre A → But (fun k => w.heap.size ≤ k ∨ Z k) A B → I pre B) (hIx : ∀ id A B, Ix id A → But (fun k => w.heap.size ≤ k ∨ Z k) A B → Ix id B) (h0 : I [] w)
    (hround : ∀ (l : Nat) (pre : List α) (x : α) (W : World), w.heap.size ≤ l → l < W.heap.size → I pre W → Qx pre x →
      assign.wpIn (Fence.wide.inRound l) 0 P (Exit.then (fun a₁ W₁ => Ext W W₁ ∧ ∀ W₂, Kept w.heap.size (l + 1) (fun _ => False) W₁ W₂ → I pre W₂ →
        body.wpIn (Fence.wide.inRound l) 0 P (roundEnd n₀ w.heap.size T I Ix (pre ++ [x]) W₂) a₁ W₂) (fun _ _ _ => False))
        { tmps := (ps.zip (encs x)).foldl (fun t (p, v) => t.setIfInBounds p v) a.tmps, defers := [] } W)
    (hdone : ∀ (D : Nat) (ys : List α) (W : World), w.heap.size ≤ D → Fin ys → I ys W → W.heap[D]? = some (.deferred (some [])) → Q .normal { a with defers := { target := .collected D, args := #[] } :: a.defers } W)
    (hstop : ∀ (D : Nat) (id : Nat) (W : World), w.heap.size ≤ D → Ix id W → W.heap[D]? = some (.deferred (some [])) → (Code.exit id).wpIn Fence.wide 0 P Q { a with defers := { target := .collected D, args := #[] } :: a.defers } W) :
    (Code.rangeFunc g ps assign body).wpIn Fence.wide 0 P Q a w := by
  refine wpIn_rangeFunc ?_
  intro fn hfn
  rw [show Fence.wide.round = none from rfl]
  obtain ⟨rec, hrec⟩ : ∃ rec : LoopState → Option Code → Loop, rec = fun st pe => { state := st, pending := pe, fn, tmps := a.tmps, params := ps, assign, body, defers := w.heap.size } := ⟨_, rfl⟩
  obtain ⟨W0, hW0⟩ : ∃ W0, (w.alloc (.deferred (some []))).alloc (.loop (rec .ready none)) = W0 := ⟨_, rfl⟩
  have hL0 : W0.heap[w.heap.size + 1]? = some (.loop (rec .ready none)) := by
    rw [← hW0]; have := World.alloc_heap_new (w.alloc (.deferred (some []))) (.loop (rec .ready none)); rwa [World.size_alloc] at this
  have hK0 : W0.heap[w.heap.size]? = some (.deferred (some [])) := by
    rw [← hW0]; exact (Below.heap_alloc _ _ _ (by simp)).trans (World.alloc_heap_new w _)
  have hx0 : Ext w W0 := by rw [← hW0]; exact ((Ext.refl w).alloc _).alloc _
  have hb1 : Below w0.heap.size w0 W0 := hb0.trans (Below.mono hx0 hb0.size)
  have hsz : w.heap.size + 1 < W0.heap.size := (Array.getElem?_eq_some_iff.1 hL0).1
  have hput : ∀ (W : World) (o : Obj), But (fun k => w.heap.size ≤ k ∨ Z k) W (W.putObj (w.heap.size + 1) o) := fun W o => (But.putObj W _ o).mono fun k hk => .inl (by omega)
  have hblk : ∀ {A B : World} {k : Nat} {o : Obj}, w.heap.size ≤ k → k < w.heap.size + 1 + 1 → But (fun k => w.heap.size + 1 + 1 ≤ k ∨ Z k) A B → A.heap[k]? = some o → B.heap[k]? = some o := fun hk1 hk2 hb ho =>
    (hb.block _ (Array.getElem?_eq_some_iff.1 ho).1 (by rintro (h | h); · omega
                                                        · have := hZ _ h; omega)).trans ho
  refine ⟨w.heap.size + 1, [{ target := .collected w.heap.size, args := #[] }], W0, { target := .fn (.func gf) lb, args := #[.func (.yield (w.heap.size + 1)) #[] #[]] }, W0, gf,
    #[.func (.yield (w.heap.size + 1)) #[] #[]] ++ lb, W0, ?_, ?_, ?_, ?_, (fun h => by cases h), ?_⟩
  · rw [← hW0, hrec]; exact run_enterLoop_outer _ _ _ _ _
  · simp only [resolve, hg]
    simp [go_sem]
  · intro f' _; trivial
  · simp [invoke, go_sem, eg]
  · refine (hseq (w.heap.size + 1) (fun pre W => I pre W ∧ W.heap[w.heap.size + 1]? = some (.loop (rec .ready none)) ∧ W.heap[w.heap.size]? = some (.deferred (some [])))
      (fun W => ∃ id, Ix id W ∧ W.heap[w.heap.size + 1]? = some (.loop (rec .done (some (.exit id)))) ∧ W.heap[w.heap.size]? = some (.deferred (some []))) W0 hb1
      (Nat.le_trans hb0.size (Nat.le_succ _)) hsz ?_ ?_ ?_ ⟨hI _ _ _ h0 (But.of_ext hx0), hL0, hK0⟩).mono ?_
    · rintro pre A B ⟨hi, hl, hk⟩ hb
      exact ⟨hI _ _ _ hi (hb.mono fun k h => h.imp (fun h => by omega) id), hblk (by omega) (by omega) hb hl, hblk (by omega) (by omega) hb hk⟩
    · rintro A B ⟨id', hi, hl, hk⟩ hb
      exact ⟨id', hIx _ _ _ hi (hb.mono fun k h => h.imp (fun h => by omega) id), hblk (by omega) (by omega) hb hl, hblk (by omega) (by omega) hb hk⟩
    · rintro pre x W ⟨hi, hl, hk⟩ hq
      have hlt : w.heap.size + 1 < W.heap.size := (Array.getElem?_eq_some_iff.1 hl).1
      have hy := run_yield (P := P) (args := encs x) hl (by rw [hrec]; exact hps x)
      rw [hrec] at hy
      refine ⟨fn, _, assign, body, hy, roundIn_of_wpIn hfn (wpIn_mono (hround (w.heap.size + 1) pre x W (by omega) hlt hi hq) ?_)⟩
      clear hy
      rintro e a₁ W₁ hp
      cases e with
      | normal =>
        obtain ⟨hx1, hbody⟩ := hp
        have hl1 : W₁.heap[w.heap.size + 1]? = some (.loop (rec .ready none)) := (Below.block hx1 _ hlt).trans hl
        have hk1 : W₁.heap[w.heap.size]? = some (.deferred (some [])) := (Below.block hx1 _ (by omega)).trans hk
        have hlt1 : w.heap.size + 1 < W₁.heap.size := (Array.getElem?_eq_some_iff.1 hl1).1
        refine ⟨_, run_beginRound hl1 (by rw [hrec]), ?_⟩
        obtain ⟨W₂, hW₂⟩ : ∃ W₂, W₁.putObj (w.heap.size + 1) (.loop { rec .ready none with state := .busy }) = W₂ := ⟨_, rfl⟩
        rw [hW₂]
        have hl2 : W₂.heap[w.heap.size + 1]? = some (.loop { rec .ready none with state := .busy }) := by rw [← hW₂]; exact World.putObj_heap_same hlt1
        have hk2 : W₂.heap[w.heap.size]? = some (.deferred (some [])) := by rw [← hW₂]; exact (World.putObj_heap_other (by omega)).trans hk1
        have h12 : Kept w.heap.size (w.heap.size + 1 + 1) (fun _ => False) W₁ W₂ := by rw [← hW₂]; exact Kept.putObj _ _ _ _ _ _ (by omega) (by omega) (fun _ h => h.elim)
        have hi1 : I pre W₁ := hI _ _ _ hi (But.of_ext hx1)
        have hi2 : I pre W₂ := by rw [← hW₂]; exact hI _ _ _ hi1 (hput _ _)
        have fin : ∀ (jump : Option Code) (W3 : World), Kept n₀ w.heap.size T W₂ W3 →
            (Instr.endRound (w.heap.size + 1) jump).run P W3 = .ok (.bool jump.isNone) (W3.putObj (w.heap.size + 1) (.loop (rec (if jump.isNone then .ready else .done) jump))) ∧
            (W3.putObj (w.heap.size + 1) (.loop (rec (if jump.isNone then .ready else .done) jump))).heap[w.heap.size + 1]? = some (.loop (rec (if jump.isNone then .ready else .done) jump)) ∧
            (W3.putObj (w.heap.size + 1) (.loop (rec (if jump.isNone then .ready else .done) jump))).heap[w.heap.size]? = some (.deferred (some [])) := fun jump W3 h23 => by
          have hl3 := (h23.beyond (w.heap.size + 1) (by omega) (Array.getElem?_eq_some_iff.1 hl2).1).trans hl2
          have hk3 := (h23.beyond w.heap.size (by omega) (Array.getElem?_eq_some_iff.1 hk2).1).trans hk2
          have hr := run_endRound (P := P) jump hl3
          rw [hrec] at hr ⊢
          exact ⟨hr, World.putObj_heap_same (Array.getElem?_eq_some_iff.1 hl3).1, (World.putObj_heap_other (by omega)).trans hk3⟩
        refine wpIn_mono (hbody W₂ h12 hi2) ?_
        rintro e a3 W3 hp
        cases e with
        | normal =>
          obtain ⟨h23, hi3⟩ := hp
          obtain ⟨hr, hl4, hk4⟩ := fin none W3 h23
          refine ⟨_, _, hr, .inl ⟨rfl, ⟨hI _ _ _ hi3 (hput _ _), hl4, hk4⟩, ?_⟩⟩
          have e1 : Kept n₀ (w.heap.size + 1 + 1) T W W₁ := Kept.ext hx1 (by omega)
          exact ((e1.trans ((h12.of_below hT).mono hn (Nat.le_refl _))).trans (h23.mono (Nat.le_refl _) (by omega))).trans (Kept.putObj _ _ _ _ _ _ (by omega) (by omega) (fun j hj => by have := hT j hj; omega))
        | exit id =>
          obtain ⟨h23, hi3⟩ := hp
          obtain ⟨hr, hl4, hk4⟩ := fin (some (.exit id)) W3 h23
          exact ⟨_, _, hr, .inr ⟨rfl, id, hIx _ _ _ hi3 (hput _ _), hl4, hk4⟩⟩
        | ret => exact hp.elim
        | goto t => exact hp.elim
        | panic ch => exact hp.elim
        | outgrown => exact hp.elim
      | ret => exact hp.elim
      | exit id => exact hp.elim
      | goto t => exact hp.elim
      | panic ch => exact hp.elim
      | outgrown => exact hp.elim
    · rintro e W2 ⟨⟨v, rfl⟩, (⟨ys, hf, hi, hl, hk⟩ | ⟨id, hi, hl, hk⟩)⟩
      · exact ⟨none, _, by have := run_endLoop (P := P) hl (by rw [hrec]; simp); rw [hrec] at this; exact this, hdone _ ys _ (Nat.le_refl _) hf (hI _ _ _ hi (hput _ _)) ((World.putObj_heap_other (by omega)).trans hk)⟩
      · exact ⟨some (.exit id), _, by have := run_endLoop (P := P) hl (by rw [hrec]; simp); rw [hrec] at this; exact this, hstop _ id _ (Nat.le_refl _) (hIx _ _ _ hi (hput _ _)) ((World.putObj_heap_other (by omega)).trans hk)⟩

end Go.Proofs.YtdgcgpapcbjfhaaGreatDoor
