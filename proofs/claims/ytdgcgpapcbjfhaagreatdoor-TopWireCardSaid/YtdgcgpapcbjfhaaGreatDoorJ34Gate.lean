/- A gate in memory: New, what it does by kinds. -/
import Derived.Test.YtdgcgpapcbjfhaaGreatDoorJ33Slots
import Derived.Test.YtdgcgpapcbjfhaaGreatDoorJ32FindW
import Derived.Test.YtdgcgpapcbjfhaaGreatDoorJ16CfgW
set_option linter.unusedVariables false
set_option linter.unusedSimpArgs false

/- Who stays, of nobody. -/
namespace Go.Proofs.YtdgcgpapcbjfhaaGreatDoor
open Go.RowKit

attribute [local go_sem] ite_min ite_max

theorem pParted0 (f : Value) (w : World) : Calls Tryz.prog 172 #[.slice none 0 0, f] w fun e w' => e = .returned (.tuple #[.slice none 0 0, .slice none 0 0]) ∧ Ext w w' := by
  go_enter Tryz.func172, Tryz.ntmps172
  go_wp2
  go_loopw [4, 5, 12] (fun a b i wr => a = .slice none 0 0 ∧ b = .slice none 0 0 ∧ i = .int .i64 0 ∧ wr = w) (fun _ _ _ _ => 0)
  case atStart => exact ⟨rfl, rfl, rfl, rfl⟩
  case round =>
    obtain ⟨rfl, rfl, rfl, rfl⟩ := hrel
    go_wp2
    exact bodyPost_ret (v := .tuple #[.slice none 0 0, .slice none 0 0]) (by simp [results, Tryz.results172, go_sem]) rfl ⟨rfl, by repeat (first | exact Ext.refl _ | assumption | apply Ext.drew | apply Ext.alloc | (refine Ext.setCell ?_ (by simp <;> omega) _) | refine Ext.trans ?_ (by assumption))⟩

theorem pSorted0 (w : World) : Calls Tryz.prog 138 #[.slice none 0 0] w fun e w' => e = .returned (.bool true) ∧ Ext w w' := by
  go_enter Tryz.func138, Tryz.ntmps138
  go_wp2
  go_loop [3] (fun i => i = .int .i64 1) (fun _ => 0)
  case atStart => rfl
  case round =>
    subst hrel
    go_wp2
    go_ret
    exact ⟨rfl, by repeat (first | exact Ext.refl _ | assumption | apply Ext.drew | apply Ext.alloc | (refine Ext.setCell ?_ (by simp <;> omega) _) | refine Ext.trans ?_ (by assumption))⟩

theorem pTabOf0 (mo ck : Int) (h1 : 1 ≤ mo) (h2 : mo ≤ 1000000) (w : World) :
    Calls Tryz.prog 136 #[.int .i64 mo, .int .u64 ck, .slice none 0 0] w fun e w' => ∃ t mb, e = .returned (.tuple #[.pointer (some ⟨t, 0, none⟩), .int .u16 0]) ∧ TabAt w' t mo ck mb #[] 0 ∧ w.heap.size ≤ t ∧ w.heap.size ≤ mb ∧ t ≠ mb ∧ Ext w w' := by
  go_enter Tryz.func136, Tryz.ntmps136
  go_wp2_with fail
  refine (pTabNew mo h1 h2 _).mono ?_
  rintro e w1 ⟨t, mb, rfl, hT, ht, hm, hne, hx⟩
  obtain ⟨c0, c1, c2, f1, hmb⟩ := hT
  have hTH := Lib.hid (TabAt.mk c0 c1 c2 f1 hmb)
  clear hmb
  go_wp2
  obtain ⟨W2, hW2⟩ : ∃ W2, w1.setCell ⟨t, 1, none⟩ (.int .u64 ck) = W2 := ⟨_, rfl⟩
  have hx2 : Ext w W2 := by rw [← hW2]; exact hx.setCell (by simp; omega) _
  have hT2 : Hid (TabAt W2 t mo ck mb #[] 0) := Lib.hid (by rw [← hW2]; exact hTH.out.tick ck)
  rw [hW2]
  clear hW2 hTH c0 c1 c2 f1
  go_loopw [9, 27] (fun a i wr => a = .slice none 0 0 ∧ i = .int .i64 0 ∧ wr = W2) (fun _ _ _ => 0)
  case atStart => exact ⟨rfl, rfl, rfl⟩
  case round =>
    obtain ⟨rfl, rfl, rfl⟩ := hrel
    go_wp2_with fail
    refine (pSorted0 _).mono ?_
    rintro e w3 ⟨rfl, h3⟩
    go_wp2
    exact bodyPost_ret (v := .tuple #[.pointer (some ⟨t, 0, none⟩), .int .u16 0]) (by simp [results, Tryz.results136, go_sem]) rfl ⟨t, mb, rfl, hT2.out.ext h3, ht, hm, hne, hx2.trans h3⟩

/-- what holds while keep.both asks -/
structure BothS (W : World) (t : Nat) (mo ck : Int) (mb mk : Nat) (w' : World) : Prop where
  tab : TabAt w' t mo ck mb #[] mk
  but : But (fun k => k = t) W w'
theorem BothS.ext {W : World} {t : Nat} {mo ck : Int} {mb mk : Nat} {w' w'' : World} (h : BothS W t mo ck mb mk w') (hx : Ext w' w'') : BothS W t mo ck mb mk w'' := ⟨h.tab.ext hx, h.but.trans (But.of_ext hx)⟩
theorem BothS.drew {W : World} {t : Nat} {mo ck : Int} {mb mk : Nat} {w' : World} (h : BothS W t mo ck mb mk w') : BothS W t mo ck mb mk w'.drew := h.ext ((Ext.refl _).drew)
theorem RulesAt.but {X : Nat → Prop} {w w' : World} {v : Value} {rs : List Rl} (h : RulesAt w v rs) (hb : But X w w') (hX : ∀ k, v.ownBlock = some k → ¬ X k) : RulesAt w' v rs := ⟨h.1, hb.owns h.2 hX⟩
theorem BothS.tick {W : World} {t : Nat} {mo ck : Int} {mb mk : Nat} {w' : World} (h : BothS W t mo ck mb mk w') : BothS W t mo ck mb mk (w'.setCell ⟨t, 1, none⟩ (.int .u64 ck)) := ⟨h.tab.tick ck, h.but.trans ((But.refl (fun k => k = t) w').setCell rfl _)⟩

set_option maxHeartbeats 1600000 in
theorem pBoth0 (t : Nat) (mo ck : Int) (h0 : 0 ≤ ck) (mb mk : Nat) (m : Nat) (v : Value) (rs : List Rl) (hn : rs.length ≤ 1000) (hl : ∀ r ∈ rs, r.pre.length ≤ 1000000) (w : World) (hT : TabAt w t mo ck mb #[] mk) (hv : RulesAt w v rs) :
    Calls Tryz.prog 135 #[.pointer (some ⟨t, 0, none⟩), plV m v] w fun e w' => e = .returned (.tuple #[.slice none 0 0, .slice none 0 0]) ∧ TabAt w' t mo ck mb #[] mk ∧ But (fun k => k = t) w w' := by
  have hmf : ∀ (fn : Fn) (first cap : Array Value) (w : World), (Instr.makeFunc fn first cap).run Tryz.prog w = .ok (.func fn first cap) w := fun _ _ _ _ => rfl
  have hvl := Lib.hid hv
  unfold plV
  go_enter Tryz.func135, Tryz.ntmps135
  go_wp2
  obtain ⟨B, hB⟩ : ∃ B, w.heap.size = B := ⟨_, rfl⟩
  obtain ⟨W, hW⟩ : ∃ W, w.alloc (.cells #[.int .i64 m, v] 30) = W := ⟨_, rfl⟩
  have hx0 : Ext w W := by rw [← hW]; exact (Ext.refl w).alloc _
  have hst : BothS W t mo ck mb mk W := ⟨hT.ext hx0, But.refl _ _⟩
  have hBt : ¬ B = t := by have htl : t < w.heap.size := World.block_lt_of_cell? w _ hT.c0; omega
  have hc0 : W.cell? ⟨B, 1, none⟩ = some v := by subst hW hB; go_simp
  have hcv : ∀ w', BothS W t mo ck mb mk w' → w'.cell? ⟨B, 1, none⟩ = some v := fun w' h => h.but.cell hc0 hBt
  have hSl : ∀ w', BothS W t mo ck mb mk w' → Calls Tryz.prog 134 #[.pointer (some ⟨t, 0, none⟩)] w' fun e w'' => e = .returned (.slice none 0 0) ∧ BothS W t mo ck mb mk w'' := fun w' h => (pSlots t mo ck mb mk w' h.tab).mono fun e w'' h2 => ⟨h2.1, h.ext h2.2⟩
  have hNw : ∀ w', BothS W t mo ck mb mk w' → Calls Tryz.prog 101 #[v] w' fun e w'' => (∃ T, e = .returned (.pointer (some ⟨T, 0, none⟩))) ∧ BothS W t mo ck mb mk w'' := fun w' h => (pTreeNew v rs hn hl w' ((hvl.out.ext hx0).but h.but (fun k e he => hv.ne hT.c0 k e he))).mono fun e w'' ⟨T, G, h1, h2⟩ => ⟨⟨_, h1⟩, h.ext h2.ext⟩
  have hCk : ∀ w', BothS W t mo ck mb mk w' → Calls Tryz.prog 107 #[.pointer (some ⟨t, 0, none⟩)] w' fun e w'' => e = .returned (.int .u64 ck) ∧ BothS W t mo ck mb mk w'' := fun w' h => (pClock t mo ck mb #[] mk h0 w' h.tab).mono fun e w'' h2 => ⟨h2.1, by rw [h2.2]; exact h.tick⟩
  have hPa : ∀ f w', BothS W t mo ck mb mk w' → Calls Tryz.prog 172 #[.slice none 0 0, f] w' fun e w'' => e = .returned (.tuple #[.slice none 0 0, .slice none 0 0]) ∧ BothS W t mo ck mb mk w'' := fun f w' h => (pParted0 f w').mono fun e w'' h2 => ⟨h2.1, h.ext h2.2⟩
  rw [hW, hB]
  have hx0H := Lib.hid hx0
  clear hW hB hc0 hT hv hvl hx0
  go_region_held3 (BothS W t mo ck mb mk) (first | assumption | exact BothS.drew (by assumption)) (first
    | (go_at_call 134; refine (hSl _ (by assumption)).mono ?_; rintro e w9 ⟨rfl, hb⟩)
    | (go_at_call 101; refine (hNw _ (by assumption)).mono ?_; rintro e w9 ⟨⟨TV, rfl⟩, hb⟩)
    | (go_at_call 107; refine (hCk _ (by assumption)).mono ?_; rintro e w9 ⟨rfl, hb⟩)
    | (go_at_call 172; refine (hPa _ _ (by assumption)).mono ?_; rintro e w9 ⟨rfl, hb⟩))
  go_wp2
  exact bodyPost_ret (v := .tuple #[.slice none 0 0, .slice none 0 0]) (by simp [results, Tryz.results135, go_sem]) rfl ⟨rfl, hb.tab, (But.of_ext hx0H.out).trans hb.but⟩

set_option maxHeartbeats 1600000 in
theorem pKeep0 (t : Nat) (mo ck : Int) (h0 : 0 ≤ ck) (mb mk : Nat) (m : Nat) (hm1 : 1 ≤ m) (hm2 : m ≤ 1000000) (v : Value) (rs : List Rl) (hn : rs.length ≤ 1000) (hl : ∀ r ∈ rs, r.pre.length ≤ 1000000) (w : World) (hT : TabAt w t mo ck mb #[] mk) (hv : RulesAt w v rs) :
    Calls Tryz.prog 100 #[.pointer (some ⟨t, 0, none⟩), plV m v] w fun e w' => ∃ t2 mb2, e = .returned (.tuple #[.pointer (some ⟨t2, 0, none⟩), .int .i64 0, .int .u16 0]) ∧ TabAt w' t2 m ck mb2 #[] 0 ∧ w.heap.size ≤ t2 ∧ w.heap.size ≤ mb2 ∧ But (fun k => k = t) w w' ∧ TabAt w' t mo ck mb #[] mk := by
  have hBo : ∀ w', Ext w w' → Calls Tryz.prog 135 #[.pointer (some ⟨t, 0, none⟩), .agg #[.int .i64 m, v]] w' fun e w'' => e = .returned (.tuple #[.slice none 0 0, .slice none 0 0]) ∧ BothS w' t mo ck mb mk w'' := fun w' hx => (pBoth0 t mo ck h0 mb mk m v rs hn hl w' (hT.ext hx) (hv.ext hx)).mono fun e w'' h => ⟨h.1, h.2.1, h.2.2⟩
  have htl : t < w.heap.size := World.block_lt_of_cell? w _ hT.c0
  unfold plV
  go_enter Tryz.func100, Tryz.ntmps100
  go_wp2_with fail
  have hx0 : Ext w (w.alloc (.cells #[.int .i64 m, v] 30)) := (Ext.refl w).alloc _
  have hc0 : (w.alloc (.cells #[.int .i64 m, v] 30)).cell? ⟨w.heap.size, 0, none⟩ = some (.int .i64 m) := by go_simp
  refine (hBo _ hx0).mono ?_
  rintro e W ⟨rfl, hS⟩
  have hst : BothS W t mo ck mb mk W := ⟨hS.tab, But.refl _ _⟩
  have hcW : W.cell? ⟨w.heap.size, 0, none⟩ = some (.int .i64 m) := hS.but.cell hc0 (show ¬ w.heap.size = t by omega)
  have hwW := Lib.hid ((But.of_ext hx0).trans hS.but)
  obtain ⟨B, hB⟩ : ∃ B, w.heap.size = B := ⟨_, rfl⟩
  rw [hB] at hcW
  have hBt : ¬ B = t := by omega
  have hcv : ∀ w', BothS W t mo ck mb mk w' → w'.cell? ⟨B, 0, none⟩ = some (.int .i64 m) := fun w' h => h.but.cell hcW hBt
  have hCk : ∀ w', BothS W t mo ck mb mk w' → Calls Tryz.prog 107 #[.pointer (some ⟨t, 0, none⟩)] w' fun e w'' => e = .returned (.int .u64 ck) ∧ BothS W t mo ck mb mk w'' := fun w' h => (pClock t mo ck mb #[] mk h0 w' h.tab).mono fun e w'' h2 => ⟨h2.1, by rw [h2.2]; exact h.tick⟩
  have hOf : ∀ w', BothS W t mo ck mb mk w' → Calls Tryz.prog 136 #[.int .i64 m, .int .u64 ck, .slice none 0 0] w' fun e w'' => (∃ t2 mb2, e = .returned (.tuple #[.pointer (some ⟨t2, 0, none⟩), .int .u16 0]) ∧ TabAt w'' t2 m ck mb2 #[] 0 ∧ w.heap.size ≤ t2 ∧ w.heap.size ≤ mb2) ∧ BothS W t mo ck mb mk w'' := fun w' h => (pTabOf0 m ck (by omega) (by omega) w').mono fun e w'' ⟨t2, mb2, h1, h2, h3, h4, h5, h6⟩ => by
    have hs1 := h.but.size
    have hs2 := hwW.out.size
    exact ⟨⟨t2, mb2, h1, h2, by omega, by omega⟩, h.ext h6⟩
  have hTH := Lib.hid hT
  clear hT hv hBo hS hc0 hx0 hcW htl
  go_wp2
  clear hB
  go_region_held3 (BothS W t mo ck mb mk) (first | assumption | exact BothS.drew (by assumption)) (first
    | (go_at_call 107; refine (hCk _ (by assumption)).mono ?_; rintro e w9 ⟨rfl, hb⟩)
    | (go_at_call 136; refine (hOf _ (by assumption)).mono ?_; rintro e w9 ⟨⟨t2, mb2, rfl, h2, h3, h4⟩, hb⟩))
  go_wp2
  exact bodyPost_ret (v := .tuple #[.pointer (some ⟨t2, 0, none⟩), .int .i64 0, .int .u16 0]) (by simp [results, Tryz.results100, go_sem]) rfl ⟨t2, mb2, rfl, h2, h3, h4, hwW.out.trans hb.but, hb.tab⟩

end Go.Proofs.YtdgcgpapcbjfhaaGreatDoor

/- A gate in memory: New, what it does by kinds. -/
namespace Go.Proofs.YtdgcgpapcbjfhaaGreatDoor
open Go.RowKit

/-- a gate in memory -/
structure GateAt (w : World) (g : Nat) (t : Nat) (p tr : Option Addr) (x y : Nat) : Prop where
  c0 : w.cell? ⟨g, 0, none⟩ = some (.pointer (some ⟨t, 0, none⟩))
  c1 : w.cell? ⟨g, 1, none⟩ = some (.pointer p)
  c2 : w.cell? ⟨g, 2, none⟩ = some (.pointer tr)
  c3 : w.cell? ⟨g, 3, none⟩ = some (.complex .f64 x y)
  f0 : w.frozen? ⟨g, 0, none⟩ = false
  f1 : w.frozen? ⟨g, 1, none⟩ = false
  f2 : w.frozen? ⟨g, 2, none⟩ = false
  f3 : w.frozen? ⟨g, 3, none⟩ = false
theorem GateAt.but {X : Nat → Prop} {w w' : World} {g t : Nat} {p tr : Option Addr} {x y : Nat} (h : GateAt w g t p tr x y) (hb : But X w w') (hn : ¬ X g) : GateAt w' g t p tr x y := by
  obtain ⟨a, b, c, d, e, f, i, j⟩ := h
  exact ⟨hb.cell a hn, hb.cell b hn, hb.cell c hn, hb.cell d hn, hb.free a hn e, hb.free b hn f, hb.free c hn i, hb.free d hn j⟩
theorem GateAt.ext {w w' : World} {g t : Nat} {p tr : Option Addr} {x y : Nat} (h : GateAt w g t p tr x y) (hx : Ext w w') : GateAt w' g t p tr x y :=
  h.but (But.of_ext hx) (Nat.not_le.2 (World.block_lt_of_cell? w _ h.c0))

set_option maxHeartbeats 1600000 in
theorem pGateNew (w : World) :
    Calls Tryz.prog 17 #[] w fun e w' => ∃ g t mb, e = .returned (.pointer (some ⟨g, 0, none⟩)) ∧ GateAt w' g t none none 0 0 ∧ TabAt w' t 1 0 mb #[] 0 ∧ w.heap.size ≤ g ∧ w.heap.size ≤ t ∧ w.heap.size ≤ mb ∧ g ≠ t ∧ g ≠ mb ∧ Ext w w' := by
  go_enter Tryz.func17, Tryz.ntmps17
  go_wp2_with fail
  refine (pTabNew 1 (by omega) (by omega) _).mono ?_
  rintro e w1 ⟨t, mb, rfl, hT, ht, hm, hne, hx⟩
  have htl := World.block_lt_of_cell? w1 _ hT.c0
  have hml : mb < w1.heap.size := (Array.getElem?_eq_some_iff.1 hT.m).1
  have hTH := Lib.hid hT
  clear hT
  go_wp2
  go_ret
  exact ⟨w1.heap.size, t, mb, rfl, ⟨by go_simp, by go_simp, by go_simp, by go_simp, by go_simp, by go_simp, by go_simp, by go_simp⟩, hTH.out.ext ((Ext.refl w1).alloc _), by have := hx.size; omega, ht, hm, by omega, by omega, by repeat (first | exact Ext.refl _ | assumption | apply Ext.drew | apply Ext.alloc | (refine Ext.setCell ?_ (by simp <;> omega) _) | refine Ext.trans ?_ (by assumption))⟩

/-- an answer without a body -/
structure Ans where
  code : Int
  err : Int
  lim : Int
  left : Int
  reset : Int
  after : Int
  nanos : Int
  retry : Bool
  many : Int
def ansV (a : Ans) : Value := .agg #[.int .u8 a.code, .int .u16 a.err, .int .u64 a.lim, .int .u64 a.left, .int .u64 a.reset, .int .u64 a.after, .int .u64 a.nanos, .bool a.retry, .int .i64 a.many, .slice none 0 0]

theorem pFailed (x : Int) (w : World) : Calls Tryz.prog 44 #[.int .u16 x] w fun e w' => e = .returned (ansV ⟨7, x, 0, 0, 0, 0, 0, false, 0⟩) ∧ Ext w w' := by
  go_enter Tryz.func44, Tryz.ntmps44
  go_wp2
  exact bodyPost_ret (v := ansV ⟨7, x, 0, 0, 0, 0, 0, false, 0⟩) (by simp [results, Tryz.results44, go_sem, ansV]) rfl ⟨rfl, by repeat (first | exact Ext.refl _ | assumption | apply Ext.drew | apply Ext.alloc | (refine Ext.setCell ?_ (by simp <;> omega) _) | refine Ext.trans ?_ (by assumption))⟩

theorem pDone (x : Int) (w : World) : Calls Tryz.prog 91 #[.int .i64 x] w fun e w' => e = .returned (ansV ⟨6, 0, 0, 0, 0, 0, 0, false, x⟩) ∧ Ext w w' := by
  go_enter Tryz.func91, Tryz.ntmps91
  go_wp2
  exact bodyPost_ret (v := ansV ⟨6, 0, 0, 0, 0, 0, 0, false, x⟩) (by simp [results, Tryz.results91, go_sem, ansV]) rfl ⟨rfl, by repeat (first | exact Ext.refl _ | assumption | apply Ext.drew | apply Ext.alloc | (refine Ext.setCell ?_ (by simp <;> omega) _) | refine Ext.trans ?_ (by assumption))⟩

theorem alloc_put (w : World) (es es' : Array MapEntry) (c c' : Nat) : putMap (w.alloc (.map es c)) w.heap.size es' c' = w.alloc (.map es' c') := by
  have h : (w.heap.push (.map es c)).setIfInBounds w.heap.size (.map es' c') = w.heap.push (.map es' c') := by apply Array.ext'; simp
  show ({ w with heap := (w.heap.push (.map es c)).setIfInBounds w.heap.size (.map es' c') } : World) = { w with heap := w.heap.push (.map es' c') }
  rw [h]

theorem ins_act (w : World) (es : Array MapEntry) (clock : Nat) (k : Int) (val : Value) (hf : Instr.findNow (.int .u8) (.int .u8 k) es.toList 0 = some none) :
    (Instr.mapUpdate 111 (.map (some w.heap.size)) (.int .u8 k) val).run Tryz.prog (w.alloc (.map es clock)) = .ok () (w.alloc (.map (es.push { key := .int .u8 k, val := val, born := clock }) (clock + 1))) := by
  rw [insN val (show Tryz.prog.underlying 111 = some (.map 5 65) by kernel_rfl) (show Tryz.prog.underlying 5 = some (.int .u8) by kernel_rfl) (fun b w => ckInt (show Tryz.prog.underlying 5 = some (.int .u8) by kernel_rfl) b _ _ w) (MapKept.heap_alloc w _).1 hf, alloc_put]

def es7 (g : Nat) : Array MapEntry := #[{ key := .int .u8 1, val := (.func (.func 67) #[.pointer (some ⟨g, 0, none⟩)] #[]), born := 0 }, { key := .int .u8 2, val := (.func (.func 68) #[.pointer (some ⟨g, 0, none⟩)] #[]), born := 1 }, { key := .int .u8 3, val := (.func (.func 69) #[.pointer (some ⟨g, 0, none⟩)] #[]), born := 2 }, { key := .int .u8 4, val := (.func (.func 70) #[.pointer (some ⟨g, 0, none⟩)] #[]), born := 3 }, { key := .int .u8 5, val := (.func (.func 71) #[.pointer (some ⟨g, 0, none⟩)] #[]), born := 4 }, { key := .int .u8 6, val := (.func (.func 72) #[.pointer (some ⟨g, 0, none⟩)] #[]), born := 5 }, { key := .int .u8 7, val := (.func (.func 73) #[.pointer (some ⟨g, 0, none⟩)] #[]), born := 6 }]

set_option maxRecDepth 20000 in
set_option maxHeartbeats 1600000 in
theorem pActs (g : Nat) (w : World) :
    Calls Tryz.prog 43 #[.pointer (some ⟨g, 0, none⟩)] w fun e w' => e = .returned (.map (some w.heap.size)) ∧ w.alloc (.map (es7 g) 7) = w' := by
  have hmm := @run_makeMap Tryz.prog
  have hmf : ∀ (fn : Fn) (first cap : Array Value) (w : World), (Instr.makeFunc fn first cap).run Tryz.prog w = .ok (.func fn first cap) w := fun _ _ _ _ => rfl
  have h1 : (Instr.mapUpdate 111 (.map (some w.heap.size)) (.int .u8 1) (.func (.func 67) #[.pointer (some ⟨g, 0, none⟩)] #[])).run Tryz.prog (w.alloc (.map #[] 0)) = .ok () (w.alloc (.map #[{ key := .int .u8 1, val := (.func (.func 67) #[.pointer (some ⟨g, 0, none⟩)] #[]), born := 0 }] 1)) := ins_act w _ 0 1 _ rfl
  have h2 : (Instr.mapUpdate 111 (.map (some w.heap.size)) (.int .u8 2) (.func (.func 68) #[.pointer (some ⟨g, 0, none⟩)] #[])).run Tryz.prog (w.alloc (.map #[{ key := .int .u8 1, val := (.func (.func 67) #[.pointer (some ⟨g, 0, none⟩)] #[]), born := 0 }] 1)) = .ok () (w.alloc (.map #[{ key := .int .u8 1, val := (.func (.func 67) #[.pointer (some ⟨g, 0, none⟩)] #[]), born := 0 }, { key := .int .u8 2, val := (.func (.func 68) #[.pointer (some ⟨g, 0, none⟩)] #[]), born := 1 }] 2)) := ins_act w _ 1 2 _ rfl
  have h3 : (Instr.mapUpdate 111 (.map (some w.heap.size)) (.int .u8 3) (.func (.func 69) #[.pointer (some ⟨g, 0, none⟩)] #[])).run Tryz.prog (w.alloc (.map #[{ key := .int .u8 1, val := (.func (.func 67) #[.pointer (some ⟨g, 0, none⟩)] #[]), born := 0 }, { key := .int .u8 2, val := (.func (.func 68) #[.pointer (some ⟨g, 0, none⟩)] #[]), born := 1 }] 2)) = .ok () (w.alloc (.map #[{ key := .int .u8 1, val := (.func (.func 67) #[.pointer (some ⟨g, 0, none⟩)] #[]), born := 0 }, { key := .int .u8 2, val := (.func (.func 68) #[.pointer (some ⟨g, 0, none⟩)] #[]), born := 1 }, { key := .int .u8 3, val := (.func (.func 69) #[.pointer (some ⟨g, 0, none⟩)] #[]), born := 2 }] 3)) := ins_act w _ 2 3 _ rfl
  have h4 : (Instr.mapUpdate 111 (.map (some w.heap.size)) (.int .u8 4) (.func (.func 70) #[.pointer (some ⟨g, 0, none⟩)] #[])).run Tryz.prog (w.alloc (.map #[{ key := .int .u8 1, val := (.func (.func 67) #[.pointer (some ⟨g, 0, none⟩)] #[]), born := 0 }, { key := .int .u8 2, val := (.func (.func 68) #[.pointer (some ⟨g, 0, none⟩)] #[]), born := 1 }, { key := .int .u8 3, val := (.func (.func 69) #[.pointer (some ⟨g, 0, none⟩)] #[]), born := 2 }] 3)) = .ok () (w.alloc (.map #[{ key := .int .u8 1, val := (.func (.func 67) #[.pointer (some ⟨g, 0, none⟩)] #[]), born := 0 }, { key := .int .u8 2, val := (.func (.func 68) #[.pointer (some ⟨g, 0, none⟩)] #[]), born := 1 }, { key := .int .u8 3, val := (.func (.func 69) #[.pointer (some ⟨g, 0, none⟩)] #[]), born := 2 }, { key := .int .u8 4, val := (.func (.func 70) #[.pointer (some ⟨g, 0, none⟩)] #[]), born := 3 }] 4)) := ins_act w _ 3 4 _ rfl
  have h5 : (Instr.mapUpdate 111 (.map (some w.heap.size)) (.int .u8 5) (.func (.func 71) #[.pointer (some ⟨g, 0, none⟩)] #[])).run Tryz.prog (w.alloc (.map #[{ key := .int .u8 1, val := (.func (.func 67) #[.pointer (some ⟨g, 0, none⟩)] #[]), born := 0 }, { key := .int .u8 2, val := (.func (.func 68) #[.pointer (some ⟨g, 0, none⟩)] #[]), born := 1 }, { key := .int .u8 3, val := (.func (.func 69) #[.pointer (some ⟨g, 0, none⟩)] #[]), born := 2 }, { key := .int .u8 4, val := (.func (.func 70) #[.pointer (some ⟨g, 0, none⟩)] #[]), born := 3 }] 4)) = .ok () (w.alloc (.map #[{ key := .int .u8 1, val := (.func (.func 67) #[.pointer (some ⟨g, 0, none⟩)] #[]), born := 0 }, { key := .int .u8 2, val := (.func (.func 68) #[.pointer (some ⟨g, 0, none⟩)] #[]), born := 1 }, { key := .int .u8 3, val := (.func (.func 69) #[.pointer (some ⟨g, 0, none⟩)] #[]), born := 2 }, { key := .int .u8 4, val := (.func (.func 70) #[.pointer (some ⟨g, 0, none⟩)] #[]), born := 3 }, { key := .int .u8 5, val := (.func (.func 71) #[.pointer (some ⟨g, 0, none⟩)] #[]), born := 4 }] 5)) := ins_act w _ 4 5 _ rfl
  have h6 : (Instr.mapUpdate 111 (.map (some w.heap.size)) (.int .u8 6) (.func (.func 72) #[.pointer (some ⟨g, 0, none⟩)] #[])).run Tryz.prog (w.alloc (.map #[{ key := .int .u8 1, val := (.func (.func 67) #[.pointer (some ⟨g, 0, none⟩)] #[]), born := 0 }, { key := .int .u8 2, val := (.func (.func 68) #[.pointer (some ⟨g, 0, none⟩)] #[]), born := 1 }, { key := .int .u8 3, val := (.func (.func 69) #[.pointer (some ⟨g, 0, none⟩)] #[]), born := 2 }, { key := .int .u8 4, val := (.func (.func 70) #[.pointer (some ⟨g, 0, none⟩)] #[]), born := 3 }, { key := .int .u8 5, val := (.func (.func 71) #[.pointer (some ⟨g, 0, none⟩)] #[]), born := 4 }] 5)) = .ok () (w.alloc (.map #[{ key := .int .u8 1, val := (.func (.func 67) #[.pointer (some ⟨g, 0, none⟩)] #[]), born := 0 }, { key := .int .u8 2, val := (.func (.func 68) #[.pointer (some ⟨g, 0, none⟩)] #[]), born := 1 }, { key := .int .u8 3, val := (.func (.func 69) #[.pointer (some ⟨g, 0, none⟩)] #[]), born := 2 }, { key := .int .u8 4, val := (.func (.func 70) #[.pointer (some ⟨g, 0, none⟩)] #[]), born := 3 }, { key := .int .u8 5, val := (.func (.func 71) #[.pointer (some ⟨g, 0, none⟩)] #[]), born := 4 }, { key := .int .u8 6, val := (.func (.func 72) #[.pointer (some ⟨g, 0, none⟩)] #[]), born := 5 }] 6)) := ins_act w _ 5 6 _ rfl
  have h7 : (Instr.mapUpdate 111 (.map (some w.heap.size)) (.int .u8 7) (.func (.func 73) #[.pointer (some ⟨g, 0, none⟩)] #[])).run Tryz.prog (w.alloc (.map #[{ key := .int .u8 1, val := (.func (.func 67) #[.pointer (some ⟨g, 0, none⟩)] #[]), born := 0 }, { key := .int .u8 2, val := (.func (.func 68) #[.pointer (some ⟨g, 0, none⟩)] #[]), born := 1 }, { key := .int .u8 3, val := (.func (.func 69) #[.pointer (some ⟨g, 0, none⟩)] #[]), born := 2 }, { key := .int .u8 4, val := (.func (.func 70) #[.pointer (some ⟨g, 0, none⟩)] #[]), born := 3 }, { key := .int .u8 5, val := (.func (.func 71) #[.pointer (some ⟨g, 0, none⟩)] #[]), born := 4 }, { key := .int .u8 6, val := (.func (.func 72) #[.pointer (some ⟨g, 0, none⟩)] #[]), born := 5 }] 6)) = .ok () (w.alloc (.map #[{ key := .int .u8 1, val := (.func (.func 67) #[.pointer (some ⟨g, 0, none⟩)] #[]), born := 0 }, { key := .int .u8 2, val := (.func (.func 68) #[.pointer (some ⟨g, 0, none⟩)] #[]), born := 1 }, { key := .int .u8 3, val := (.func (.func 69) #[.pointer (some ⟨g, 0, none⟩)] #[]), born := 2 }, { key := .int .u8 4, val := (.func (.func 70) #[.pointer (some ⟨g, 0, none⟩)] #[]), born := 3 }, { key := .int .u8 5, val := (.func (.func 71) #[.pointer (some ⟨g, 0, none⟩)] #[]), born := 4 }, { key := .int .u8 6, val := (.func (.func 72) #[.pointer (some ⟨g, 0, none⟩)] #[]), born := 5 }, { key := .int .u8 7, val := (.func (.func 73) #[.pointer (some ⟨g, 0, none⟩)] #[]), born := 6 }] 7)) := ins_act w _ 6 7 _ rfl
  unfold es7
  go_enter Tryz.func43, Tryz.ntmps43
  go_wp2
  go_ret
  exact ⟨rfl, rfl⟩

end Go.Proofs.YtdgcgpapcbjfhaaGreatDoor
