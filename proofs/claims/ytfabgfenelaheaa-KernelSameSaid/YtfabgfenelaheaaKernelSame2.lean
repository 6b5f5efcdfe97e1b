/- The walk of the law KernelSame. -/
import Derived.Test.YtfabgfenelaheaaKernelQ
import Derived.Test.YtfabgfenelaheaaSpecSame
import Derived.Test.YtfabgfenelaheaaPastEvt
import Derived.Sort.AtCall
import Derived.IntWalk
set_option linter.unusedVariables false
namespace Go.Proofs.Ytfabgfenelaheaa
open Go.RowKit

attribute [local go_sem] ite_min ite_max

theorem infoS : (Try.prog.info? 34).map (fun i => (i.zero, i.size, i.bytes)) = some (some (.agg #[.int .u8 0, .int .u64 0, .int .u64 0]), 3, 24) := by kernel_rfl

def row3 (N m : Int) : Nat → List Value
  | 0 => []
  | j + 1 => row3 N m j ++ [.int .u8 ((j : Int) + 1), .int .u64 (oA ((j : Int) + 1) N m 0), .int .u64 (oB ((j : Int) + 1) N)]

theorem row3_length (N m : Int) (j : Nat) : (row3 N m j).length = j * 3 := by
  induction j with
  | zero => rfl
  | succ j ih => simp [row3, ih]; omega

theorem three_news {w : World} {b : Nat} {k x y : Int} (h0 : w.cell? ⟨b, 0, none⟩ = some (.int .u8 k)) (h1 : w.cell? ⟨b, 1, none⟩ = some (.int .u64 x)) (h2 : w.cell? ⟨b, 2, none⟩ = some (.int .u64 y)) :
    ∀ j u, [Value.int .u8 k, Value.int .u64 x, Value.int .u64 y][j]? = some u → w.cell? ((⟨b, 0, none⟩ : Addr).add j) = some u := by
  intro j u hj
  rcases j with _ | _ | _ | j
  · simp at hj; subst hj; simpa [Addr.add] using h0
  · simp at hj; subst hj; simpa [Addr.add] using h1
  · simp at hj; subst hj; simpa [Addr.add] using h2
  · simp at hj

theorem three_one {k x y : Int} : ∀ u ∈ [Value.int .u8 k, Value.int .u64 x, Value.int .u64 y], u.oneCell' = true := by
  intro u hu; simp at hu; rcases hu with rfl | rfl | rfl <;> rfl

theorem own_ext {w w' : World} {base n size : Nat} {e : TypeId} {v : Value} {xs : List Value} (h : w.ownsRow base e size v n xs) (hx : Ext w w') : w'.ownsRow base e size v n xs :=
  World.ownsRow.kept h (row := none) ⟨hx.os, hx.tape, hx.output, hx.size, fun k hk _ => Below.block hx k hk⟩ (by
    cases hv : v.ownBlock with
    | none => exact .inl rfl
    | some k => exact .inr (by simp))

theorem ext_owned {w wr w1 : World} {n size : Nat} {e : TypeId} {v : Value} {xs : List Value} (h : Ext w wr) (hown : wr.ownsRow w.heap.size e size v n xs) (hg : wr.grownBy w1 v.ownBlock) : Ext w w1 :=
  Below.grown h hg h.size (fun k hk => (World.ownsRow.lt hown k hk).1)

/-- the row of the three states -/
def Row3 (w : World) (g : Nat) (S : Nat → Int × Int) : Prop := ∀ i, i < 3 →
  w.cell? ⟨g, i * 3, none⟩ = some (.int .u8 ((i : Int) + 1)) ∧ w.cell? ⟨g, i * 3 + 1, none⟩ = some (.int .u64 (S i).1) ∧ w.cell? ⟨g, i * 3 + 2, none⟩ = some (.int .u64 (S i).2) ∧
  w.frozen? ⟨g, i * 3, none⟩ = false ∧ w.frozen? ⟨g, i * 3 + 1, none⟩ = false ∧ w.frozen? ⟨g, i * 3 + 2, none⟩ = false

theorem own_row3 {w : World} {base : Nat} {v : Value} {N m : Int} (h : w.ownsRow base 34 3 v 3 (row3 N m 3)) :
    ∃ g cap, v = .slice (some ⟨g, 0, none⟩) 3 cap ∧ base ≤ g ∧ g < w.heap.size ∧ Row3 w g (fun i => (oA ((i : Int) + 1) N m 0, oB ((i : Int) + 1) N)) := by
  have h' := h
  obtain ⟨_, ⟨hv, hn⟩ | ⟨g, cap, cur, hv, hg, hh, hnc, hcm, hsz, htake⟩⟩ := h'
  · omega
  · subst hv
    refine ⟨g, cap, rfl, hg, (Array.getElem?_eq_some_iff.1 hh).1, fun i hi => ?_⟩
    have c := fun j hj => World.ownsRow.cellAt h j hj
    have f : ∀ j, w.frozen? ⟨g, j, none⟩ = false := fun j => by simp [World.frozen?, hh]
    refine ⟨?_, ?_, ?_, f _, f _, f _⟩ <;> rw [c _ (by omega)] <;> (rcases i with _ | _ | _ | i <;> first | rfl | omega)

theorem Row3.ext {w w' : World} {g : Nat} {S : Nat → Int × Int} (h : Row3 w g S) (hx : Ext w w') : Row3 w' g S := fun i hi => by
  obtain ⟨a, b, c, d, e, f⟩ := h i hi
  exact ⟨hx.reads a, hx.reads b, hx.reads c, hx.free a d, hx.free b e, hx.free c f⟩

/-- a state in a box -/
def Box3 (w : World) (p : Nat) (K A B : Int) : Prop :=
  w.cell? ⟨p, 0, none⟩ = some (.int .u8 K) ∧ w.cell? ⟨p, 1, none⟩ = some (.int .u64 A) ∧ w.cell? ⟨p, 2, none⟩ = some (.int .u64 B) ∧
  w.frozen? ⟨p, 0, none⟩ = false ∧ w.frozen? ⟨p, 1, none⟩ = false ∧ w.frozen? ⟨p, 2, none⟩ = false

theorem Box3.ext {w w' : World} {p : Nat} {K A B : Int} (h : Box3 w p K A B) (hx : Ext w w') : Box3 w' p K A B := by
  obtain ⟨a, b, c, d, e, f⟩ := h
  exact ⟨hx.reads a, hx.reads b, hx.reads c, hx.free a d, hx.free b e, hx.free c f⟩

theorem setCell_far {w : World} {a b : Addr} {u v : Value} (h : a ≠ b) (hc : w.cell? b = some v) : (w.setCell a u).cell? b = some v := by
  rw [World.cell?_setCell_other]
  · exact hc
  · exact h

theorem addr_block {a b : Addr} (h : a.block ≠ b.block) : a ≠ b := fun e => h (by rw [e])
theorem addr_off {g i j : Nat} (h : i ≠ j) : (⟨g, i, none⟩ : Addr) ≠ ⟨g, j, none⟩ := fun e => h (by injection e)

theorem Row3.far {w : World} {g : Nat} {S : Nat → Int × Int} (h : Row3 w g S) (a : Addr) (u : Value) (ha : a.block ≠ g) : Row3 (w.setCell a u) g S := fun i hi => by
  obtain ⟨x, y, z, d, e, f⟩ := h i hi
  refine ⟨setCell_far (addr_block ha) x, setCell_far (addr_block ha) y, setCell_far (addr_block ha) z, ?_, ?_, ?_⟩ <;> rw [World.frozen?_setCell] <;> assumption

theorem Box3.far {w : World} {p : Nat} {K A B : Int} (h : Box3 w p K A B) (a : Addr) (u : Value) (ha : a.block ≠ p) : Box3 (w.setCell a u) p K A B := by
  obtain ⟨x, y, z, d, e, f⟩ := h
  refine ⟨setCell_far (addr_block ha) x, setCell_far (addr_block ha) y, setCell_far (addr_block ha) z, ?_, ?_, ?_⟩ <;> rw [World.frozen?_setCell] <;> assumption

theorem set_same {w : World} {a : Addr} {u v : Value} (h : w.cell? a = some v) : (w.setCell a u).cell? a = some u := World.cell?_setCell_same' _ _ _ (by rw [h]; rfl)

theorem Box3.put {w : World} {p : Nat} {K A B K' A' B' : Int} (h : Box3 w p K A B) : Box3 (((w.setCell ⟨p, 0, none⟩ (.int .u8 K')).setCell ⟨p, 1, none⟩ (.int .u64 A')).setCell ⟨p, 2, none⟩ (.int .u64 B')) p K' A' B' := by
  obtain ⟨x, y, z, d, e, f⟩ := h
  have x1 := set_same (u := .int .u8 K') x
  have y1 := setCell_far (w := w) (u := .int .u8 K') (addr_off (g := p) (show 0 ≠ 1 by omega)) y
  have z1 := setCell_far (w := w) (u := .int .u8 K') (addr_off (g := p) (show 0 ≠ 2 by omega)) z
  have y2 := set_same (u := .int .u64 A') y1
  have x2 := setCell_far (u := .int .u64 A') (addr_off (g := p) (show 1 ≠ 0 by omega)) x1
  have z2 := setCell_far (u := .int .u64 A') (addr_off (g := p) (show 1 ≠ 2 by omega)) z1
  have z3 := set_same (u := .int .u64 B') z2
  have x3 := setCell_far (u := .int .u64 B') (addr_off (g := p) (show 2 ≠ 0 by omega)) x2
  have y3 := setCell_far (u := .int .u64 B') (addr_off (g := p) (show 2 ≠ 1 by omega)) y2
  refine ⟨x3, y3, z3, ?_, ?_, ?_⟩ <;> simp only [World.frozen?_setCell] <;> assumption

theorem Row3.put {w : World} {g : Nat} {S : Nat → Int × Int} (h : Row3 w g S) (n : Nat) (hn : n < 3) (A' B' : Int) :
    Row3 (((w.setCell ⟨g, n * 3, none⟩ (.int .u8 ((n : Int) + 1))).setCell ⟨g, n * 3 + 1, none⟩ (.int .u64 A')).setCell ⟨g, n * 3 + 2, none⟩ (.int .u64 B')) g (fun i => if i = n then (A', B') else S i) := fun i hi => by
  by_cases e : i = n
  · subst e
    obtain ⟨x, y, z, d, e, f⟩ := h i hi
    dsimp only
    rw [if_pos rfl]
    have x1 := set_same (u := .int .u8 ((i : Int) + 1)) x
    have y1 := setCell_far (w := w) (u := .int .u8 ((i : Int) + 1)) (addr_off (g := g) (show i * 3 ≠ i * 3 + 1 by omega)) y
    have z1 := setCell_far (w := w) (u := .int .u8 ((i : Int) + 1)) (addr_off (g := g) (show i * 3 ≠ i * 3 + 2 by omega)) z
    have y2 := set_same (u := .int .u64 A') y1
    have x2 := setCell_far (u := .int .u64 A') (addr_off (g := g) (show i * 3 + 1 ≠ i * 3 by omega)) x1
    have z2 := setCell_far (u := .int .u64 A') (addr_off (g := g) (show i * 3 + 1 ≠ i * 3 + 2 by omega)) z1
    have z3 := set_same (u := .int .u64 B') z2
    have x3 := setCell_far (u := .int .u64 B') (addr_off (g := g) (show i * 3 + 2 ≠ i * 3 by omega)) x2
    have y3 := setCell_far (u := .int .u64 B') (addr_off (g := g) (show i * 3 + 2 ≠ i * 3 + 1 by omega)) y2
    refine ⟨x3, y3, z3, ?_, ?_, ?_⟩ <;> simp only [World.frozen?_setCell] <;> assumption
  · obtain ⟨x, y, z, d, e', f⟩ := h i hi
    dsimp only
    rw [if_neg e]
    refine ⟨?_, ?_, ?_, ?_, ?_, ?_⟩
    · exact setCell_far (addr_off (by omega)) (setCell_far (addr_off (by omega)) (setCell_far (addr_off (by omega)) x))
    · exact setCell_far (addr_off (by omega)) (setCell_far (addr_off (by omega)) (setCell_far (addr_off (by omega)) y))
    · exact setCell_far (addr_off (by omega)) (setCell_far (addr_off (by omega)) (setCell_far (addr_off (by omega)) z))
    all_goals (simp only [World.frozen?_setCell]; assumption)

/-- what holds of the four states between two rounds -/
def Inv3 (j : Nat) (N m f K A B : Int) (S : Nat → Int × Int) : Prop :=
  0 ≤ N ∧ N ≤ 4611686018427387903 + j * 4294967295 ∧ Rep K A B N m f ∧ ∀ i : Nat, i < 3 → Rep ((i : Int) + 1) (S i).1 (S i).2 N m f

theorem Inv3.start {N m : Int} (h0 : 0 ≤ N) (h1 : N ≤ 4611686018427387903) (hm : 0 ≤ m ∧ m ≤ 4294967295) : Inv3 0 N m 0 1 (oA 1 N m 0) (oB 1 N) (fun i => (oA ((i : Int) + 1) N m 0, oB ((i : Int) + 1) N)) := by
  have hs : Sml N m := by unfold Sml; omega
  refine ⟨h0, by omega, rep_of (by unfold Kin; omega) hs (by omega) (by omega), fun i hi => ?_⟩
  exact rep_of (by unfold Kin; omega) hs (by omega) (by omega)

set_option maxRecDepth 20000 in
set_option maxHeartbeats 4000000 in
theorem kSameLaw (a : Option Addr) (len cap : Nat) (Z : Nat → Nat → Int) (most at_ : Int) (hm : 0 ≤ most ∧ most ≤ 4294967295) (ha : U at_) (w : World) (hS : IsSt w a len Z) :
    Calls Try.prog 13 #[.slice a len cap, .int .u32 most, .int .u64 at_] w fun e w' => e = .returned (.bool true) ∧ Ext w w' := by
  obtain ⟨i0, hi, hz0, hz1, hz2⟩ := info_parts infoS
  obtain ⟨hm1, hm2⟩ := hm
  obtain ⟨ha1, ha2⟩ := ha
  have hmax := hS.1
  rw [maxLen_lit] at hmax
  by_cases h60 : len ≤ 60
  · have hl : ¬ (60 : Int) < (len : Int) := by omega
    have HS := Lib.hid hS
    clear hS
    have hN : 0 ≤ at_ / 4 ∧ at_ / 4 ≤ 4611686018427387903 := by omega
    obtain ⟨N0, eN⟩ : ∃ N, at_ / 4 = N := ⟨_, rfl⟩
    rw [eN] at hN
    obtain ⟨hN1, hN2⟩ := hN
    have uN : U N0 := by unfold U; omega
    have uM : U most := by unfold U; omega
    have u0 : U 0 := by unfold U; omega
    go_enter Try.func13, Try.ntmps13
    go_wp2
    go_loopw [9, 10] (fun s k wr => ∃ j : Nat, j ≤ 3 ∧ k = .int .u8 ((j : Int) + 1) ∧ wr.ownsRow w.heap.size 34 3 s j (row3 N0 most j) ∧ Ext w wr) (fun _ k _ => 4 - (intOf k).toNat)
    case atStart => exact ⟨0, by omega, rfl, World.ownsRow_nil _ _ _ _, Ext.refl _⟩
    case round =>
      obtain ⟨j, hj, rfl, hown, hx⟩ := hrel
      by_cases hlt : j < 3
      · have hK : Kin ((j : Int) + 1) := by unfold Kin; omega
        have eK := hK.oK
        have eE := hK.oE
        have hrow : row3 N0 most (j + 1) = row3 N0 most j ++ [.int .u8 ((j : Int) + 1), .int .u64 (oA ((j : Int) + 1) N0 most 0), .int .u64 (oB ((j : Int) + 1) N0)] := rfl
        have hlen := row3_length N0 most j
        obtain ⟨A, eA⟩ : ∃ A, oA ((j : Int) + 1) N0 most 0 = A := ⟨_, rfl⟩
        obtain ⟨B, eB⟩ : ∃ A, oB ((j : Int) + 1) N0 = A := ⟨_, rfl⟩
        obtain ⟨R, eR⟩ : ∃ R, row3 N0 most j = R := ⟨_, rfl⟩
        rw [eA, eB, eR] at hrow
        rw [eR] at hown hlen
        have HO := Lib.hid (And.intro eK (And.intro eE (And.intro eA eB)))
        have HR := Lib.hid hrow
        have HL := Lib.hid hlen
        have HW := Lib.hid hown
        have hl3 : (j : Int) < 3 := by omega
        have hl4 : (j : Int) + 1 ≤ 3 := by omega
        clear eK eE eA eB eR hrow hlen hown hK
        go_wp2_with fail
        refine (kOf ((j : Int) + 1) N0 most 0 uN uM u0 _).mono ?_
        rw [HO.out.1, HO.out.2.1, HO.out.2.2.1, HO.out.2.2.2]
        rintro e w1 ⟨rfl, hb⟩
        have hx1 : Ext w w1 := hx.trans hb
        have HW1 := Lib.hid (own_ext HW.out hb)
        have hx1s := hx1.size
        go_wp2_with (at_builtin; refine wpList_append_own _ rfl _ _ 61 rfl w.heap.size 34 i0 (.agg #[.int .u8 0, .int .u64 0, .int .u64 0]) 3 24 Try.underlying61 hi hz0 hz1 hz2 rfl (by decide) _ j R rfl (own_ext HW1.out (((Ext.refl w1).alloc _).alloc _)) ⟨w1.heap.size + 1, 0, none⟩ 1 1 [.int .u8 ((j : Int) + 1), .int .u64 A, .int .u64 B] rfl rfl (three_news (by go_simp) (by go_simp) (by go_simp)) three_one (by unfold maxLen; omega) (by omega) (by simp; omega) ?_)
        intro v' w2 hown2 hgrow2 _
        have hx2 : Ext w w2 := ext_owned (by repeat (first | exact Ext.refl _ | assumption | apply Ext.drew | apply Ext.alloc | (refine Ext.setCell ?_ (by simp <;> omega) _) | refine Ext.trans ?_ (by assumption))) (own_ext HW1.out (((Ext.refl w1).alloc _).alloc _)) hgrow2
        have ho2 : w2.ownsRow w.heap.size 34 3 v' (j + 1) (row3 N0 most (j + 1)) := by rw [HR.out]; exact hown2
        clear hown2 hgrow2
        go_wp2
        go_roundw
        case rel => exact ⟨j + 1, by omega, by simp, ho2, hx2⟩
        case measure => simp [intOf]; omega
      · obtain rfl : j = 3 := by omega
        rw [show (((3 : Nat) : Int) + 1) = 4 from rfl]
        obtain ⟨g, cs, rfl, hg, hgl, hrow⟩ := own_row3 hown
        have HRow := Lib.hid hrow
        obtain ⟨r0, r1, r2, -, -, -⟩ := hrow 0 (by omega)
        simp only [Nat.zero_mul, Nat.zero_add, Int.natCast_zero, Int.zero_add] at r0 r1 r2
        have hInv := Inv3.start (N := N0) (m := most) hN1 hN2 ⟨hm1, hm2⟩
        obtain ⟨A, eA⟩ : ∃ A, oA 1 N0 most 0 = A := ⟨_, rfl⟩
        obtain ⟨B, eB⟩ : ∃ A, oB 1 N0 = A := ⟨_, rfl⟩
        rw [eA] at r1 hInv
        rw [eB] at r2 hInv
        obtain ⟨S0, eS0⟩ : ∃ S : Nat → Int × Int, (fun i : Nat => (oA ((i : Int) + 1) N0 most 0, oB ((i : Int) + 1) N0)) = S := ⟨_, rfl⟩
        rw [eS0] at hInv HRow
        have HInv := Lib.hid hInv
        clear hrow hown eA eB eS0 hInv
        go_wp2
        obtain ⟨W1, e1, hx1, hbox, hr1⟩ : ∃ W1, wr.alloc (.cells #[.int .u8 1, .int .u64 A, .int .u64 B] 34) = W1 ∧ Ext w W1 ∧ Box3 W1 wr.heap.size 1 A B ∧ Row3 W1 g S0 :=
          ⟨_, rfl, hx.alloc _, ⟨by go_simp, by go_simp, by go_simp, by go_simp, by go_simp, by go_simp⟩, HRow.out.ext ((Ext.refl wr).alloc _)⟩
        have hpw : w.heap.size ≤ wr.heap.size := hx.size
        have hpg : g ≠ wr.heap.size := by omega
        obtain ⟨p, ep⟩ : ∃ p, wr.heap.size = p := ⟨_, rfl⟩
        rw [ep] at hbox hpw hpg
        rw [e1, ep]
        have HB1 := Lib.hid hbox
        have HR1 := Lib.hid hr1
        clear e1 ep hx r0 r1 r2 HRow hgl hbox hr1
        go_loopw [7, 14] (fun now i wq => ∃ j : Nat, ∃ N f K A B : Int, ∃ S : Nat → Int × Int, j ≤ len ∧ i = .int .i64 j ∧ now = .int .u64 N ∧ Ext w wq ∧ Hid (Inv3 j N most f K A B S) ∧ Hid (Row3 wq g S) ∧ Hid (Box3 wq p K A B)) (fun _ i _ => len - (intOf i).toNat)
        case atStart => exact ⟨0, N0, 0, 1, A, B, S0, by omega, rfl, rfl, hx1, HInv, HR1, HB1⟩
        case round =>
          obtain ⟨j, N, f, K, A2, B2, S, hj, rfl, rfl, hx, hI, hR, hB⟩ := hrel
          by_cases hlt : j < len
          · rcases HS.out.2.2 with h | ⟨b, off, rfl, hc⟩
            · omega
            obtain ⟨c0, c1, c2, c3⟩ := hc j hlt
            have hD := evD_le HS.out.2.1 hlt
            have hV := evW_le HS.out.2.1 hlt
            obtain ⟨⟨z0, z0'⟩, ⟨z1, z1'⟩, ⟨z2, z2'⟩, ⟨z3, z3'⟩⟩ := HS.out.2.1 j hlt
            have eD : evD Z j = Z j 0 / 2 ^ (Z j 2 % 32).toNat := rfl
            have eV : evW Z j = Z j 1 * 2 ^ (Z j 2 % 20).toNat := rfl
            obtain ⟨x0, ex0⟩ : ∃ x, Z j 0 = x := ⟨_, rfl⟩
            obtain ⟨x1, ex1⟩ : ∃ x, Z j 1 = x := ⟨_, rfl⟩
            obtain ⟨x2, ex2⟩ : ∃ x, Z j 2 = x := ⟨_, rfl⟩
            obtain ⟨x3, ex3⟩ : ∃ x, Z j 3 = x := ⟨_, rfl⟩
            obtain ⟨D, xD⟩ : ∃ x, evD Z j = x := ⟨_, rfl⟩
            obtain ⟨V, xV⟩ : ∃ x, evW Z j = x := ⟨_, rfl⟩
            rw [ex0] at c0 z0 z0' eD
            rw [ex1] at c1 z1 z1' eV
            rw [ex2] at c2 z2 z2' eD eV
            rw [ex3] at c3 z3 z3'
            rw [xD] at hD eD
            rw [xV] at hV eV
            have d0 := hx.reads c0
            have d1 := hx.reads c1
            have d2 := hx.reads c2
            have d3 := hx.reads c3
            have ED := Lib.hid eD
            have EV := Lib.hid eV
            have HC := Lib.hid (And.intro c0 (And.intro c1 (And.intro c2 c3)))
            obtain ⟨hN0, hNb, hRep, hReps⟩ := hI.out
            have hRep' := rep_later hRep hD.1
            have hReps' := fun (i : Nat) (hi : i < 3) => rep_later (hReps i hi) hD.1
            obtain ⟨N', eN'⟩ : ∃ x, N + D = x := ⟨_, rfl⟩
            obtain ⟨f', ef'⟩ : ∃ x, usub f D = x := ⟨_, rfl⟩
            rw [eN', ef'] at hRep'
            have hReps2 : ∀ i : Nat, i < 3 → Rep ((i : Int) + 1) (S i).1 (S i).2 N' most f' := fun i hi => by have := hReps' i hi; rwa [eN', ef'] at this
            have hN' : 0 ≤ N' ∧ N' ≤ 4611686018427387903 + (j + 1 : Nat) * 4294967295 := by omega
            have hSml : Sml N' most := by unfold Sml; omega
            have uN' : U N' := by unfold U; omega
            have uV : U V := by unfold U; omega
            have E1 := Lib.hid (show IntKind.u64.wrap (x0 / 2 ^ (x2 % 32).toNat) = D by rw [← ED.out, IntKind.wrap_u64]; omega)
            have E2 := Lib.hid (show IntKind.u64.wrap (N + D) = N' by rw [IntKind.wrap_u64]; omega)
            have E3 := Lib.hid (show IntKind.u64.wrap (x1 * 2 ^ (x2 % 20).toNat) = V by rw [← EV.out, IntKind.wrap_u64]; omega)
            have E4 := Lib.hid (show IntKind.u64.wrap x1 = x1 by rw [IntKind.wrap_u64]; omega)
            have HRep := Lib.hid (And.intro hRep' (And.intro hReps2 (And.intro hN' hSml)))
            have hl1 : (j : Int) < (len : Int) := by omega
            clear hc c0 c1 c2 c3 ex0 ex1 ex2 ex3 xD xV eD eV hRep hReps hRep' hReps' hReps2 eN' ef' hI hSml hNb
            go_wp2
            go_quiet (fail)
            rw [E1.out, E2.out]
            obtain ⟨Wa, eW, hxa, HRa, HBa⟩ : ∃ Wa, wr.drewN nq = Wa ∧ Ext w Wa ∧ Hid (Row3 Wa g S) ∧ Hid (Box3 Wa p K A2 B2) := ⟨_, rfl, hx.drewN nq, Lib.hid (hR.out.ext ((Ext.refl wr).drewN nq)), Lib.hid (hB.out.ext ((Ext.refl wr).drewN nq))⟩
            rw [eW]
            clear eW hx hR hB d0 d1 d2 d3
            have d3 := hxa.reads HC.out.2.2.2
            by_cases hk : x3 % 3 > 0
            · have hT : Kin (1 + x3 % 9 / 3) := by unfold Kin; omega
              have hmv := rep_move HRep.out.1 hT HRep.out.2.2.2
              obtain ⟨T, eT⟩ : ∃ T, 1 + x3 % 9 / 3 = T := ⟨_, rfl⟩
              rw [eT] at hmv
              obtain ⟨A1, eA1⟩ : ∃ y, mA K A2 B2 T N' most = y := ⟨_, rfl⟩
              obtain ⟨B1, eB1⟩ : ∃ y, mB K T N' = y := ⟨_, rfl⟩
              rw [eA1, eB1] at hmv
              have uA := HRep.out.1.1
              have uB := HRep.out.1.2.1
              have hMg := fun (w' : World) => kMigrate K A2 B2 T N' most uA uB uN' uM w'
              rw [hmv.1, hmv.2.1, eA1, eB1] at hMg
              have HMg := Lib.hid hMg
              have HMv := Lib.hid hmv.2.2
              have HT1 := Lib.hid (show IntKind.u8.wrap (1 + (x3.tmod 9).tdiv 3) = T by
                rw [Int.tmod_eq_emod_of_nonneg z3, Int.tdiv_eq_ediv_of_nonneg (by omega), IntKind.wrap_u8]; omega)
              have HT2 := Lib.hid (show IntKind.u8.wrap ((x3.tmod 9).tdiv 3) = (x3.tmod 9).tdiv 3 by
                rw [Int.tmod_eq_emod_of_nonneg z3, Int.tdiv_eq_ediv_of_nonneg (by omega), IntKind.wrap_u8]; omega)
              have s0 : ∀ w', Ext Wa w' → w'.cell? ⟨p, 0, none⟩ = some (.int .u8 K) := fun w' hz => hz.reads HBa.out.1
              have s1 : ∀ w', Ext Wa w' → w'.cell? ⟨p, 1, none⟩ = some (.int .u64 A2) := fun w' hz => hz.reads HBa.out.2.1
              have s2 : ∀ w', Ext Wa w' → w'.cell? ⟨p, 2, none⟩ = some (.int .u64 B2) := fun w' hz => hz.reads HBa.out.2.2.1
              have s3 : ∀ w', Ext Wa w' → w'.cell? ⟨b, off + j * 4 + 3, none⟩ = some (.int .u8 x3) := fun w' hz => (hxa.trans hz).reads HC.out.2.2.2
              have y0 : ∀ wq, Ext (Wa.alloc (.cells #[.int .u8 0, .int .u64 0, .int .u64 0] 34)).drew wq → wq.cell? ⟨Wa.heap.size, 0, none⟩ = some (.int .u8 0) := fun wq hz => hz.reads (by go_simp)
              have y1 : ∀ wq, Ext (Wa.alloc (.cells #[.int .u8 0, .int .u64 0, .int .u64 0] 34)).drew wq → wq.cell? ⟨Wa.heap.size, 1, none⟩ = some (.int .u64 0) := fun wq hz => hz.reads (by go_simp)
              have y2 : ∀ wq, Ext (Wa.alloc (.cells #[.int .u8 0, .int .u64 0, .int .u64 0] 34)).drew wq → wq.cell? ⟨Wa.heap.size, 2, none⟩ = some (.int .u64 0) := fun wq hz => hz.reads (by go_simp)
              have v0 : ∀ wq, Ext (Wa.alloc (.cells #[.int .u8 0, .int .u64 0, .int .u64 0] 34)).drew wq → wq.frozen? ⟨Wa.heap.size, 0, none⟩ = false := fun wq hz => hz.free (v := .int .u8 0) (by go_simp) (by go_simp)
              have v1 : ∀ wq, Ext (Wa.alloc (.cells #[.int .u8 0, .int .u64 0, .int .u64 0] 34)).drew wq → wq.frozen? ⟨Wa.heap.size, 1, none⟩ = false := fun wq hz => hz.free (v := .int .u64 0) (by go_simp) (by go_simp)
              have v2 : ∀ wq, Ext (Wa.alloc (.cells #[.int .u8 0, .int .u64 0, .int .u64 0] 34)).drew wq → wq.frozen? ⟨Wa.heap.size, 2, none⟩ = false := fun wq hz => hz.free (v := .int .u64 0) (by go_simp) (by go_simp)
              have ht1 := HT1.out
              have ht2 := HT2.out
              clear eT eA1 eB1 hmv hMg uA uB hT
              go_wp2
              go_region_held3 (Ext Wa)
                (first
                  | exact Ext.trans (by assumption) hb
                  | (repeat (first | exact Ext.refl _ | assumption | apply Ext.drew | apply Ext.alloc | (refine Ext.setCell ?_ (Nat.le_refl _) _) | (refine Ext.setCell ?_ (Ext.size (by assumption)) _) | refine Ext.trans ?_ (by assumption))))
                ((go_at_call 30; refine (HMg.out _).mono ?_; rintro e w10 ⟨rfl, hb⟩))
              · clear ht1 ht2
                obtain ⟨W11, e11, hx11, n0, n1, n2⟩ : ∃ W11, w10.alloc (.cells #[.int .u8 T, .int .u64 A1, .int .u64 B1] 34) = W11 ∧ Ext Wa W11 ∧ W11.cell? ⟨w10.heap.size, 0, none⟩ = some (.int .u8 T) ∧ W11.cell? ⟨w10.heap.size, 1, none⟩ = some (.int .u64 A1) ∧ W11.cell? ⟨w10.heap.size, 2, none⟩ = some (.int .u64 B1) :=
                  ⟨_, rfl, by repeat (first | exact Ext.refl _ | assumption | apply Ext.drew | apply Ext.alloc | (refine Ext.setCell ?_ (by simp <;> omega) _) | refine Ext.trans ?_ (by assumption)), by go_simp, by go_simp, by go_simp⟩
                rw [e11]
                clear e11
                have hB11 := HBa.out.ext hx11
                have hR11 := HRa.out.ext hx11
                have hxw11 : Ext w W11 := hxa.trans hx11
                obtain ⟨k0, k1, k2, k3, k4, k5⟩ := hB11
                clear s0 s1 s2 s3 y0 y1 y2 v0 v1 v2 hb
                go_wp2
                obtain ⟨Wm, K1, A1', B1', eW, hxm, HRm, HBm, HRep1⟩ : ∃ (Wm : World) (K1 A1' B1' : Int), ((W11.setCell ⟨p, 0, none⟩ (.int .u8 T)).setCell ⟨p, 1, none⟩ (.int .u64 A1)).setCell ⟨p, 2, none⟩ (.int .u64 B1) = Wm ∧ Ext w Wm ∧ Hid (Row3 Wm g S) ∧ Hid (Box3 Wm p K1 A1' B1') ∧ Hid (Rep K1 A1' B1' N' most f') := by
                  refine ⟨_, T, A1, B1, rfl, ?_, Lib.hid ?_, Lib.hid (Box3.put ⟨k0, k1, k2, k3, k4, k5⟩), HMv⟩
                  · exact ((hxw11.setCell (show w.heap.size ≤ p from hpw) _).setCell (show w.heap.size ≤ p from hpw) _).setCell (show w.heap.size ≤ p from hpw) _
                  · exact ((hR11.far _ _ (Ne.symm hpg)).far _ _ (Ne.symm hpg)).far _ _ (Ne.symm hpg)
                rw [eW]
                clear eW k0 k1 k2 k3 k4 k5 n0 n1 n2
                have d1m := hxm.reads HC.out.2.1
                have d2m := hxm.reads HC.out.2.2.1
                go_quiet (fail)
                rw [E3.out]
                obtain ⟨Wn, eW, hxn, HRn, HBn⟩ : ∃ Wn, Wm.drewN nq = Wn ∧ Ext w Wn ∧ Hid (Row3 Wn g S) ∧ Hid (Box3 Wn p K1 A1' B1') := ⟨_, rfl, hxm.drewN nq, Lib.hid (HRm.out.ext ((Ext.refl Wm).drewN nq)), Lib.hid (HBm.out.ext ((Ext.refl Wm).drewN nq))⟩
                rw [eW]
                clear eW hxm HRm HBm d1m d2m
                have hdec := rep_dec HRep1.out HRep.out.2.2.2 uV
                have hok := rep_ok (v := V) HRep1.out HRep.out.2.2.2
                have hdecs := fun (i : Nat) (hi : i < 3) => rep_dec (HRep.out.2.1 i hi) HRep.out.2.2.2 uV
                have hoks := fun (i : Nat) (hi : i < 3) => rep_ok (v := V) (HRep.out.2.1 i hi) HRep.out.2.2.2
                have uA1 := HRep1.out.1
                have uB1 := HRep1.out.2.1
                obtain ⟨q, eq⟩ : ∃ q, decide (f' + V ≤ most) = q := ⟨_, rfl⟩
                obtain ⟨f2, ef2⟩ : ∃ y, (if f' + V ≤ most then f' + V else f') = y := ⟨_, rfl⟩
                obtain ⟨A3, eA3⟩ : ∃ y, dA K1 A1' B1' N' most V = y := ⟨_, rfl⟩
                obtain ⟨B3, eB3⟩ : ∃ y, dB K1 A1' B1' N' most V = y := ⟨_, rfl⟩
                rw [eq] at hok
                rw [ef2, eA3, eB3] at hdec
                have hoks2 : ∀ i : Nat, i < 3 → dok ((i : Int) + 1) (S i).1 (S i).2 N' most V = q := fun i hi => by rw [hoks i hi, eq]
                have hdecs2 : ∀ i : Nat, i < 3 → dK ((i : Int) + 1) (S i).1 (S i).2 N' most V = (i : Int) + 1 ∧ Rep ((i : Int) + 1) (dA ((i : Int) + 1) (S i).1 (S i).2 N' most V) (dB ((i : Int) + 1) (S i).1 (S i).2 N' most V) N' most f2 := fun i hi => by
                  have := hdecs i hi
                  rw [ef2] at this
                  exact this
                have HD := Lib.hid (And.intro hdec.1 (And.intro eA3 (And.intro eB3 hok)))
                have HRep3 := Lib.hid hdec.2
                have HO := Lib.hid hoks2
                have HDs := Lib.hid hdecs2
                clear hdec hok hdecs hoks eq ef2 eA3 eB3 hoks2 hdecs2
                have hBn := HBn.out
                obtain ⟨b0, b1, b2, -, -, -⟩ := hBn
                go_wp2_with fail
                refine (kDecide K1 A1' B1' N' most V uA1 uB1 uN' uM uV _).mono ?_
                rw [HD.out.1, HD.out.2.1, HD.out.2.2.1, HD.out.2.2.2]
                rintro e w3 ⟨rfl, hb⟩
                have hx3 : Ext w w3 := hxn.trans hb
                have hB3 := HBn.out.ext hb
                have hR3 := HRn.out.ext hb
                obtain ⟨b0', b1', b2', g0', g1', g2'⟩ := hB3
                have hplt : p < w3.heap.size := World.block_lt_of_cell? w3 _ b0'
                clear b0 b1 b2
                go_wp2
                obtain ⟨Wd, eW, hxd, HRd, HBd⟩ : ∃ Wd, (((w3.setCell ⟨p, 0, none⟩ (.int .u8 K1)).setCell ⟨p, 1, none⟩ (.int .u64 A3)).setCell ⟨p, 2, none⟩ (.int .u64 B3)).alloc (.cells #[.int .u8 K1, .int .u64 A3, .int .u64 B3] 34) = Wd ∧ Ext w Wd ∧ Hid (Row3 Wd g S) ∧ Hid (Box3 Wd p K1 A3 B3) := by
                  refine ⟨_, rfl, ?_, Lib.hid ?_, Lib.hid ?_⟩
                  · exact (((hx3.setCell (show w.heap.size ≤ p from hpw) _).setCell (show w.heap.size ≤ p from hpw) _).setCell (show w.heap.size ≤ p from hpw) _).alloc _
                  · exact (((hR3.far _ _ (Ne.symm hpg)).far _ _ (Ne.symm hpg)).far _ _ (Ne.symm hpg)).ext ((Ext.refl _).alloc _)
                  · exact (Box3.put ⟨b0', b1', b2', g0', g1', g2'⟩).ext ((Ext.refl _).alloc _)
                rw [eW]
                clear eW b0' b1' b2' g0' g1' g2' hR3 hx3 hxn HRn HBn hb hplt
                go_loopw [20] (fun k wi => ∃ n : Nat, ∃ S2 : Nat → Int × Int, n ≤ 3 ∧ k = .int .i64 n ∧ Ext w wi ∧ Hid (Row3 wi g S2) ∧ Hid (Box3 wi p K1 A3 B3) ∧ Hid (∀ i : Nat, i < 3 → (if i < n then Rep ((i : Int) + 1) (S2 i).1 (S2 i).2 N' most f2 else S2 i = S i))) (fun k _ => 3 - (intOf k).toNat)
                case atStart => exact ⟨0, S, by omega, rfl, hxd, HRd, HBd, Lib.hid (fun i hi => by rw [if_neg (by omega)])⟩
                case round =>
                  obtain ⟨n, S2, hn, rfl, hxi, hRi, hBi, hQ⟩ := hrel
                  by_cases hlt3 : n < 3
                  · obtain ⟨r0, r1, r2, -, -, -⟩ := hRi.out n hlt3
                    have hS : S2 n = S n := by have := hQ.out n hlt3; rwa [if_neg (Nat.lt_irrefl n)] at this
                    rw [hS] at r1 r2
                    have hdn := HDs.out n hlt3
                    have hon := HO.out n hlt3
                    have uA4 := (HRep.out.2.1 n hlt3).1
                    have uB4 := (HRep.out.2.1 n hlt3).2.1
                    obtain ⟨a0, ea0⟩ : ∃ y, (S n).1 = y := ⟨_, rfl⟩
                    obtain ⟨b0, eb0⟩ : ∃ y, (S n).2 = y := ⟨_, rfl⟩
                    rw [ea0] at r1 hdn hon uA4
                    rw [eb0] at r2 hdn hon uB4
                    obtain ⟨a4, ea4⟩ : ∃ y, dA ((n : Int) + 1) a0 b0 N' most V = y := ⟨_, rfl⟩
                    obtain ⟨b4, eb4⟩ : ∃ y, dB ((n : Int) + 1) a0 b0 N' most V = y := ⟨_, rfl⟩
                    rw [ea4, eb4] at hdn
                    have HN := Lib.hid (And.intro hdn.1 (And.intro ea4 (And.intro eb4 hon)))
                    have HRn4 := Lib.hid hdn.2
                    have hln1 : (n : Int) < 3 := by omega
                    clear hS hdn hon ea0 eb0 ea4 eb4
                    go_wp2_with fail
                    refine (kDecide ((n : Int) + 1) a0 b0 N' most V uA4 uB4 uN' uM uV _).mono ?_
                    rw [HN.out.1, HN.out.2.1, HN.out.2.2.1, HN.out.2.2.2]
                    rintro e w5 ⟨rfl, hb⟩
                    have hx5 : Ext w w5 := hxi.trans hb
                    have hR5 := hRi.out.ext hb
                    have hB5 := hBi.out.ext hb
                    obtain ⟨r0', r1', r2', f0', f1', f2'⟩ := hR5 n hlt3
                    have hglt : g < w5.heap.size := World.block_lt_of_cell? w5 _ r0'
                    clear r0 r1 r2
                    go_wp2
                    obtain ⟨t, et⟩ : ∃ t, w5.heap.size = t := ⟨_, rfl⟩
                    obtain ⟨We, eW, hxe, HRe, HBe, HTe⟩ : ∃ We, (((w5.setCell ⟨g, n * 3, none⟩ (.int .u8 ((n : Int) + 1))).setCell ⟨g, n * 3 + 1, none⟩ (.int .u64 a4)).setCell ⟨g, n * 3 + 2, none⟩ (.int .u64 b4)).alloc (.cells #[.int .u8 ((n : Int) + 1), .int .u64 a4, .int .u64 b4] 34) = We ∧ Ext w We ∧ Hid (Row3 We g (fun i => if i = n then (a4, b4) else S2 i)) ∧ Hid (Box3 We p K1 A3 B3) ∧ Hid (Box3 We t ((n : Int) + 1) a4 b4) := by
                      refine ⟨_, rfl, ?_, Lib.hid ?_, Lib.hid ?_, Lib.hid ?_⟩
                      · exact (((hx5.setCell (show w.heap.size ≤ g from hg) _).setCell (show w.heap.size ≤ g from hg) _).setCell (show w.heap.size ≤ g from hg) _).alloc _
                      · exact (Row3.put hR5 n hlt3 a4 b4).ext ((Ext.refl _).alloc _)
                      · exact (((hB5.far _ _ hpg).far _ _ hpg).far _ _ hpg).ext ((Ext.refl _).alloc _)
                      · rw [← et]; exact ⟨by go_simp, by go_simp, by go_simp, by go_simp, by go_simp, by go_simp⟩
                    rw [eW, et]
                    have uA5 := HRn4.out.1
                    have uB5 := HRn4.out.2.1
                    have uA6 := HRep3.out.1
                    have uB6 := HRep3.out.2.1
                    have F1 := fun (w' : World) => kFill ((n : Int) + 1) a4 b4 N' most uA5 uB5 uN' uM w'
                    have F2 := fun (w' : World) => kFill K1 A3 B3 N' most uA6 uB6 uN' uM w'
                    have F3 := fun (w' : World) => kUntil ((n : Int) + 1) a4 b4 N' most uA5 uB5 uN' uM w'
                    have F4 := fun (w' : World) => kUntil K1 A3 B3 N' most uA6 uB6 uN' uM w'
                    rw [rep_fil HRn4.out HRep.out.2.2.2] at F1
                    rw [rep_fil HRep3.out HRep.out.2.2.2] at F2
                    rw [rep_until HRn4.out HRep.out.2.2.2] at F3
                    rw [rep_until HRep3.out HRep.out.2.2.2] at F4
                    obtain ⟨u, eu⟩ : ∃ u, (if f2 > 0 then uadd N' f2 else 0) = u := ⟨_, rfl⟩
                    rw [eu] at F3 F4
                    have G1 := Lib.hid F1
                    have G2 := Lib.hid F2
                    have G3 := Lib.hid F3
                    have G4 := Lib.hid F4
                    have y0 : ∀ w', Ext We w' → w'.cell? ⟨t, 0, none⟩ = some (.int .u8 ((n : Int) + 1)) := fun w' hz => hz.reads HTe.out.1
                    have y1 : ∀ w', Ext We w' → w'.cell? ⟨t, 1, none⟩ = some (.int .u64 a4) := fun w' hz => hz.reads HTe.out.2.1
                    have y2 : ∀ w', Ext We w' → w'.cell? ⟨t, 2, none⟩ = some (.int .u64 b4) := fun w' hz => hz.reads HTe.out.2.2.1
                    have y3 : ∀ w', Ext We w' → w'.cell? ⟨p, 0, none⟩ = some (.int .u8 K1) := fun w' hz => hz.reads HBe.out.1
                    have y4 : ∀ w', Ext We w' → w'.cell? ⟨p, 1, none⟩ = some (.int .u64 A3) := fun w' hz => hz.reads HBe.out.2.1
                    have y5 : ∀ w', Ext We w' → w'.cell? ⟨p, 2, none⟩ = some (.int .u64 B3) := fun w' hz => hz.reads HBe.out.2.2.1
                    have HW1 := Lib.hid (show IntKind.i64.wrap ((n : Int) + 1) = (n : Int) + 1 from IntWalk.i64_in _ ⟨by omega, by omega⟩)
                    have HW2 := Lib.hid (show IntKind.u8.wrap ((n : Int) + 1) = (n : Int) + 1 by rw [IntKind.wrap_u8]; omega)
                    have hw1 := HW1.out
                    have hw2 := HW2.out
                    clear F1 F2 F3 F4 eu eW et uA5 uB5 uA6 uB6 r0' r1' r2' f0' f1' f2' hR5 hB5 hx5 hglt hb uA4 uB4
                    go_region_held3 (Ext We)
                      (first
                        | exact Ext.trans (by assumption) hb
                        | repeat (first | exact Ext.refl _ | assumption | apply Ext.drew | apply Ext.alloc | (refine Ext.setCell ?_ (by simp <;> omega) _) | refine Ext.trans ?_ (by assumption)))
                      (first
                        | (go_at_call_has 32 a4; refine (G1.out _).mono ?_; rintro e w6 ⟨rfl, hb⟩)
                        | (go_at_call_has 32 A3; refine (G2.out _).mono ?_; rintro e w7 ⟨rfl, hb⟩)
                        | (go_at_call_has 33 a4; refine (G3.out _).mono ?_; rintro e w8 ⟨rfl, hb⟩)
                        | (go_at_call_has 33 A3; refine (G4.out _).mono ?_; rintro e w9 ⟨rfl, hb⟩))
                    clear y0 y1 y2 y3 y4 y5 hw1 hw2
                    have hx9 : Ext We w9 := by assumption
                    go_wp2
                    go_roundw
                    case rel =>
                      refine ⟨n + 1, fun i => if i = n then (a4, b4) else S2 i, by omega, by simp, hxe.trans hx9, Lib.hid (HRe.out.ext hx9), Lib.hid (HBe.out.ext hx9), Lib.hid (fun i hi => ?_)⟩
                      by_cases e : i = n
                      · subst e
                        rw [if_pos (Nat.lt_succ_self _)]
                        dsimp only
                        rw [if_pos rfl]
                        exact HRn4.out
                      · have := hQ.out i hi
                        dsimp only
                        rw [if_neg e]
                        by_cases h : i < n
                        · rw [if_pos (by omega)]; rwa [if_pos h] at this
                        · rw [if_neg (by omega)]; rwa [if_neg h] at this
                    case measure => simp [intOf]; omega
                  · obtain rfl : n = 3 := by omega
                    go_wp2
                    go_roundw
                    case rel =>
                      refine ⟨j + 1, N', f2, K1, A3, B3, S2, by omega, by simp, rfl, hxi, Lib.hid ⟨HRep.out.2.2.1.1, HRep.out.2.2.1.2, HRep3.out, fun i hi => ?_⟩, hRi, hBi⟩
                      have := hQ.out i hi
                      rwa [if_pos hi] at this
                    case measure => simp [intOf]; omega
              · clear ht1 ht2
                have zz0 := y0 _ hb
                have zz1 := y1 _ hb
                have zz2 := y2 _ hb
                obtain ⟨W11, e11, hx11, n0, n1, n2⟩ : ∃ W11, ((w10.setCell ⟨Wa.heap.size, 0, none⟩ (.int .u8 T)).setCell ⟨Wa.heap.size, 1, none⟩ (.int .u64 A1)).setCell ⟨Wa.heap.size, 2, none⟩ (.int .u64 B1) = W11 ∧ Ext Wa W11 ∧ W11.cell? ⟨Wa.heap.size, 0, none⟩ = some (.int .u8 T) ∧ W11.cell? ⟨Wa.heap.size, 1, none⟩ = some (.int .u64 A1) ∧ W11.cell? ⟨Wa.heap.size, 2, none⟩ = some (.int .u64 B1) := by
                  refine ⟨_, rfl, ?_, by go_simp, by go_simp, by go_simp⟩
                  have hq : Ext Wa w10 := by repeat (first | exact Ext.refl _ | assumption | apply Ext.drew | apply Ext.alloc | (refine Ext.setCell ?_ (by simp <;> omega) _) | refine Ext.trans ?_ (by assumption))
                  exact ((hq.setCell (Nat.le_refl _) _).setCell (Nat.le_refl _) _).setCell (Nat.le_refl _) _
                rw [e11]
                clear e11 zz0 zz1 zz2
                have hB11 := HBa.out.ext hx11
                have hR11 := HRa.out.ext hx11
                have hxw11 : Ext w W11 := hxa.trans hx11
                obtain ⟨k0, k1, k2, k3, k4, k5⟩ := hB11
                clear s0 s1 s2 s3 y0 y1 y2 v0 v1 v2 hb
                go_wp2
                obtain ⟨Wm, K1, A1', B1', eW, hxm, HRm, HBm, HRep1⟩ : ∃ (Wm : World) (K1 A1' B1' : Int), ((W11.setCell ⟨p, 0, none⟩ (.int .u8 T)).setCell ⟨p, 1, none⟩ (.int .u64 A1)).setCell ⟨p, 2, none⟩ (.int .u64 B1) = Wm ∧ Ext w Wm ∧ Hid (Row3 Wm g S) ∧ Hid (Box3 Wm p K1 A1' B1') ∧ Hid (Rep K1 A1' B1' N' most f') := by
                  refine ⟨_, T, A1, B1, rfl, ?_, Lib.hid ?_, Lib.hid (Box3.put ⟨k0, k1, k2, k3, k4, k5⟩), HMv⟩
                  · exact ((hxw11.setCell (show w.heap.size ≤ p from hpw) _).setCell (show w.heap.size ≤ p from hpw) _).setCell (show w.heap.size ≤ p from hpw) _
                  · exact ((hR11.far _ _ (Ne.symm hpg)).far _ _ (Ne.symm hpg)).far _ _ (Ne.symm hpg)
                rw [eW]
                clear eW k0 k1 k2 k3 k4 k5 n0 n1 n2
                have d1m := hxm.reads HC.out.2.1
                have d2m := hxm.reads HC.out.2.2.1
                go_quiet (fail)
                rw [E3.out]
                obtain ⟨Wn, eW, hxn, HRn, HBn⟩ : ∃ Wn, Wm.drewN nq = Wn ∧ Ext w Wn ∧ Hid (Row3 Wn g S) ∧ Hid (Box3 Wn p K1 A1' B1') := ⟨_, rfl, hxm.drewN nq, Lib.hid (HRm.out.ext ((Ext.refl Wm).drewN nq)), Lib.hid (HBm.out.ext ((Ext.refl Wm).drewN nq))⟩
                rw [eW]
                clear eW hxm HRm HBm d1m d2m
                have hdec := rep_dec HRep1.out HRep.out.2.2.2 uV
                have hok := rep_ok (v := V) HRep1.out HRep.out.2.2.2
                have hdecs := fun (i : Nat) (hi : i < 3) => rep_dec (HRep.out.2.1 i hi) HRep.out.2.2.2 uV
                have hoks := fun (i : Nat) (hi : i < 3) => rep_ok (v := V) (HRep.out.2.1 i hi) HRep.out.2.2.2
                have uA1 := HRep1.out.1
                have uB1 := HRep1.out.2.1
                obtain ⟨q, eq⟩ : ∃ q, decide (f' + V ≤ most) = q := ⟨_, rfl⟩
                obtain ⟨f2, ef2⟩ : ∃ y, (if f' + V ≤ most then f' + V else f') = y := ⟨_, rfl⟩
                obtain ⟨A3, eA3⟩ : ∃ y, dA K1 A1' B1' N' most V = y := ⟨_, rfl⟩
                obtain ⟨B3, eB3⟩ : ∃ y, dB K1 A1' B1' N' most V = y := ⟨_, rfl⟩
                rw [eq] at hok
                rw [ef2, eA3, eB3] at hdec
                have hoks2 : ∀ i : Nat, i < 3 → dok ((i : Int) + 1) (S i).1 (S i).2 N' most V = q := fun i hi => by rw [hoks i hi, eq]
                have hdecs2 : ∀ i : Nat, i < 3 → dK ((i : Int) + 1) (S i).1 (S i).2 N' most V = (i : Int) + 1 ∧ Rep ((i : Int) + 1) (dA ((i : Int) + 1) (S i).1 (S i).2 N' most V) (dB ((i : Int) + 1) (S i).1 (S i).2 N' most V) N' most f2 := fun i hi => by
                  have := hdecs i hi
                  rw [ef2] at this
                  exact this
                have HD := Lib.hid (And.intro hdec.1 (And.intro eA3 (And.intro eB3 hok)))
                have HRep3 := Lib.hid hdec.2
                have HO := Lib.hid hoks2
                have HDs := Lib.hid hdecs2
                clear hdec hok hdecs hoks eq ef2 eA3 eB3 hoks2 hdecs2
                have hBn := HBn.out
                obtain ⟨b0, b1, b2, -, -, -⟩ := hBn
                go_wp2_with fail
                refine (kDecide K1 A1' B1' N' most V uA1 uB1 uN' uM uV _).mono ?_
                rw [HD.out.1, HD.out.2.1, HD.out.2.2.1, HD.out.2.2.2]
                rintro e w3 ⟨rfl, hb⟩
                have hx3 : Ext w w3 := hxn.trans hb
                have hB3 := HBn.out.ext hb
                have hR3 := HRn.out.ext hb
                obtain ⟨b0', b1', b2', g0', g1', g2'⟩ := hB3
                have hplt : p < w3.heap.size := World.block_lt_of_cell? w3 _ b0'
                clear b0 b1 b2
                go_wp2
                obtain ⟨Wd, eW, hxd, HRd, HBd⟩ : ∃ Wd, (((w3.setCell ⟨p, 0, none⟩ (.int .u8 K1)).setCell ⟨p, 1, none⟩ (.int .u64 A3)).setCell ⟨p, 2, none⟩ (.int .u64 B3)).alloc (.cells #[.int .u8 K1, .int .u64 A3, .int .u64 B3] 34) = Wd ∧ Ext w Wd ∧ Hid (Row3 Wd g S) ∧ Hid (Box3 Wd p K1 A3 B3) := by
                  refine ⟨_, rfl, ?_, Lib.hid ?_, Lib.hid ?_⟩
                  · exact (((hx3.setCell (show w.heap.size ≤ p from hpw) _).setCell (show w.heap.size ≤ p from hpw) _).setCell (show w.heap.size ≤ p from hpw) _).alloc _
                  · exact (((hR3.far _ _ (Ne.symm hpg)).far _ _ (Ne.symm hpg)).far _ _ (Ne.symm hpg)).ext ((Ext.refl _).alloc _)
                  · exact (Box3.put ⟨b0', b1', b2', g0', g1', g2'⟩).ext ((Ext.refl _).alloc _)
                rw [eW]
                clear eW b0' b1' b2' g0' g1' g2' hR3 hx3 hxn HRn HBn hb hplt
                go_loopw [20] (fun k wi => ∃ n : Nat, ∃ S2 : Nat → Int × Int, n ≤ 3 ∧ k = .int .i64 n ∧ Ext w wi ∧ Hid (Row3 wi g S2) ∧ Hid (Box3 wi p K1 A3 B3) ∧ Hid (∀ i : Nat, i < 3 → (if i < n then Rep ((i : Int) + 1) (S2 i).1 (S2 i).2 N' most f2 else S2 i = S i))) (fun k _ => 3 - (intOf k).toNat)
                case atStart => exact ⟨0, S, by omega, rfl, hxd, HRd, HBd, Lib.hid (fun i hi => by rw [if_neg (by omega)])⟩
                case round =>
                  obtain ⟨n, S2, hn, rfl, hxi, hRi, hBi, hQ⟩ := hrel
                  by_cases hlt3 : n < 3
                  · obtain ⟨r0, r1, r2, -, -, -⟩ := hRi.out n hlt3
                    have hS : S2 n = S n := by have := hQ.out n hlt3; rwa [if_neg (Nat.lt_irrefl n)] at this
                    rw [hS] at r1 r2
                    have hdn := HDs.out n hlt3
                    have hon := HO.out n hlt3
                    have uA4 := (HRep.out.2.1 n hlt3).1
                    have uB4 := (HRep.out.2.1 n hlt3).2.1
                    obtain ⟨a0, ea0⟩ : ∃ y, (S n).1 = y := ⟨_, rfl⟩
                    obtain ⟨b0, eb0⟩ : ∃ y, (S n).2 = y := ⟨_, rfl⟩
                    rw [ea0] at r1 hdn hon uA4
                    rw [eb0] at r2 hdn hon uB4
                    obtain ⟨a4, ea4⟩ : ∃ y, dA ((n : Int) + 1) a0 b0 N' most V = y := ⟨_, rfl⟩
                    obtain ⟨b4, eb4⟩ : ∃ y, dB ((n : Int) + 1) a0 b0 N' most V = y := ⟨_, rfl⟩
                    rw [ea4, eb4] at hdn
                    have HN := Lib.hid (And.intro hdn.1 (And.intro ea4 (And.intro eb4 hon)))
                    have HRn4 := Lib.hid hdn.2
                    have hln1 : (n : Int) < 3 := by omega
                    clear hS hdn hon ea0 eb0 ea4 eb4
                    go_wp2_with fail
                    refine (kDecide ((n : Int) + 1) a0 b0 N' most V uA4 uB4 uN' uM uV _).mono ?_
                    rw [HN.out.1, HN.out.2.1, HN.out.2.2.1, HN.out.2.2.2]
                    rintro e w5 ⟨rfl, hb⟩
                    have hx5 : Ext w w5 := hxi.trans hb
                    have hR5 := hRi.out.ext hb
                    have hB5 := hBi.out.ext hb
                    obtain ⟨r0', r1', r2', f0', f1', f2'⟩ := hR5 n hlt3
                    have hglt : g < w5.heap.size := World.block_lt_of_cell? w5 _ r0'
                    clear r0 r1 r2
                    go_wp2
                    obtain ⟨t, et⟩ : ∃ t, w5.heap.size = t := ⟨_, rfl⟩
                    obtain ⟨We, eW, hxe, HRe, HBe, HTe⟩ : ∃ We, (((w5.setCell ⟨g, n * 3, none⟩ (.int .u8 ((n : Int) + 1))).setCell ⟨g, n * 3 + 1, none⟩ (.int .u64 a4)).setCell ⟨g, n * 3 + 2, none⟩ (.int .u64 b4)).alloc (.cells #[.int .u8 ((n : Int) + 1), .int .u64 a4, .int .u64 b4] 34) = We ∧ Ext w We ∧ Hid (Row3 We g (fun i => if i = n then (a4, b4) else S2 i)) ∧ Hid (Box3 We p K1 A3 B3) ∧ Hid (Box3 We t ((n : Int) + 1) a4 b4) := by
                      refine ⟨_, rfl, ?_, Lib.hid ?_, Lib.hid ?_, Lib.hid ?_⟩
                      · exact (((hx5.setCell (show w.heap.size ≤ g from hg) _).setCell (show w.heap.size ≤ g from hg) _).setCell (show w.heap.size ≤ g from hg) _).alloc _
                      · exact (Row3.put hR5 n hlt3 a4 b4).ext ((Ext.refl _).alloc _)
                      · exact (((hB5.far _ _ hpg).far _ _ hpg).far _ _ hpg).ext ((Ext.refl _).alloc _)
                      · rw [← et]; exact ⟨by go_simp, by go_simp, by go_simp, by go_simp, by go_simp, by go_simp⟩
                    rw [eW, et]
                    have uA5 := HRn4.out.1
                    have uB5 := HRn4.out.2.1
                    have uA6 := HRep3.out.1
                    have uB6 := HRep3.out.2.1
                    have F1 := fun (w' : World) => kFill ((n : Int) + 1) a4 b4 N' most uA5 uB5 uN' uM w'
                    have F2 := fun (w' : World) => kFill K1 A3 B3 N' most uA6 uB6 uN' uM w'
                    have F3 := fun (w' : World) => kUntil ((n : Int) + 1) a4 b4 N' most uA5 uB5 uN' uM w'
                    have F4 := fun (w' : World) => kUntil K1 A3 B3 N' most uA6 uB6 uN' uM w'
                    rw [rep_fil HRn4.out HRep.out.2.2.2] at F1
                    rw [rep_fil HRep3.out HRep.out.2.2.2] at F2
                    rw [rep_until HRn4.out HRep.out.2.2.2] at F3
                    rw [rep_until HRep3.out HRep.out.2.2.2] at F4
                    obtain ⟨u, eu⟩ : ∃ u, (if f2 > 0 then uadd N' f2 else 0) = u := ⟨_, rfl⟩
                    rw [eu] at F3 F4
                    have G1 := Lib.hid F1
                    have G2 := Lib.hid F2
                    have G3 := Lib.hid F3
                    have G4 := Lib.hid F4
                    have y0 : ∀ w', Ext We w' → w'.cell? ⟨t, 0, none⟩ = some (.int .u8 ((n : Int) + 1)) := fun w' hz => hz.reads HTe.out.1
                    have y1 : ∀ w', Ext We w' → w'.cell? ⟨t, 1, none⟩ = some (.int .u64 a4) := fun w' hz => hz.reads HTe.out.2.1
                    have y2 : ∀ w', Ext We w' → w'.cell? ⟨t, 2, none⟩ = some (.int .u64 b4) := fun w' hz => hz.reads HTe.out.2.2.1
                    have y3 : ∀ w', Ext We w' → w'.cell? ⟨p, 0, none⟩ = some (.int .u8 K1) := fun w' hz => hz.reads HBe.out.1
                    have y4 : ∀ w', Ext We w' → w'.cell? ⟨p, 1, none⟩ = some (.int .u64 A3) := fun w' hz => hz.reads HBe.out.2.1
                    have y5 : ∀ w', Ext We w' → w'.cell? ⟨p, 2, none⟩ = some (.int .u64 B3) := fun w' hz => hz.reads HBe.out.2.2.1
                    have HW1 := Lib.hid (show IntKind.i64.wrap ((n : Int) + 1) = (n : Int) + 1 from IntWalk.i64_in _ ⟨by omega, by omega⟩)
                    have HW2 := Lib.hid (show IntKind.u8.wrap ((n : Int) + 1) = (n : Int) + 1 by rw [IntKind.wrap_u8]; omega)
                    have hw1 := HW1.out
                    have hw2 := HW2.out
                    clear F1 F2 F3 F4 eu eW et uA5 uB5 uA6 uB6 r0' r1' r2' f0' f1' f2' hR5 hB5 hx5 hglt hb uA4 uB4
                    go_region_held3 (Ext We)
                      (first
                        | exact Ext.trans (by assumption) hb
                        | repeat (first | exact Ext.refl _ | assumption | apply Ext.drew | apply Ext.alloc | (refine Ext.setCell ?_ (by simp <;> omega) _) | refine Ext.trans ?_ (by assumption)))
                      (first
                        | (go_at_call_has 32 a4; refine (G1.out _).mono ?_; rintro e w6 ⟨rfl, hb⟩)
                        | (go_at_call_has 32 A3; refine (G2.out _).mono ?_; rintro e w7 ⟨rfl, hb⟩)
                        | (go_at_call_has 33 a4; refine (G3.out _).mono ?_; rintro e w8 ⟨rfl, hb⟩)
                        | (go_at_call_has 33 A3; refine (G4.out _).mono ?_; rintro e w9 ⟨rfl, hb⟩))
                    clear y0 y1 y2 y3 y4 y5 hw1 hw2
                    have hx9 : Ext We w9 := by assumption
                    go_wp2
                    go_roundw
                    case rel =>
                      refine ⟨n + 1, fun i => if i = n then (a4, b4) else S2 i, by omega, by simp, hxe.trans hx9, Lib.hid (HRe.out.ext hx9), Lib.hid (HBe.out.ext hx9), Lib.hid (fun i hi => ?_)⟩
                      by_cases e : i = n
                      · subst e
                        rw [if_pos (Nat.lt_succ_self _)]
                        dsimp only
                        rw [if_pos rfl]
                        exact HRn4.out
                      · have := hQ.out i hi
                        dsimp only
                        rw [if_neg e]
                        by_cases h : i < n
                        · rw [if_pos (by omega)]; rwa [if_pos h] at this
                        · rw [if_neg (by omega)]; rwa [if_neg h] at this
                    case measure => simp [intOf]; omega
                  · obtain rfl : n = 3 := by omega
                    go_wp2
                    go_roundw
                    case rel =>
                      refine ⟨j + 1, N', f2, K1, A3, B3, S2, by omega, by simp, rfl, hxi, Lib.hid ⟨HRep.out.2.2.1.1, HRep.out.2.2.1.2, HRep3.out, fun i hi => ?_⟩, hRi, hBi⟩
                      have := hQ.out i hi
                      rwa [if_pos hi] at this
                    case measure => simp [intOf]; omega
            · have hk3 : x3 % 3 = 0 := by omega
              clear hk
              go_wp2
              obtain ⟨Wm, K1, A1, B1, eW, hxm, HRm, HBm, HRep1⟩ : ∃ (Wm : World) (K1 A1 B1 : Int), Wa = Wm ∧ Ext w Wm ∧ Hid (Row3 Wm g S) ∧ Hid (Box3 Wm p K1 A1 B1) ∧ Hid (Rep K1 A1 B1 N' most f') := ⟨Wa, K, A2, B2, rfl, hxa, HRa, HBa, Lib.hid HRep.out.1⟩
              rw [eW]
              clear eW
              have d1m := hxm.reads HC.out.2.1
              have d2m := hxm.reads HC.out.2.2.1
              go_quiet (fail)
              rw [E3.out]
              obtain ⟨Wn, eW, hxn, HRn, HBn⟩ : ∃ Wn, Wm.drewN nq = Wn ∧ Ext w Wn ∧ Hid (Row3 Wn g S) ∧ Hid (Box3 Wn p K1 A1 B1) := ⟨_, rfl, hxm.drewN nq, Lib.hid (HRm.out.ext ((Ext.refl Wm).drewN nq)), Lib.hid (HBm.out.ext ((Ext.refl Wm).drewN nq))⟩
              rw [eW]
              clear eW hxm HRm HBm d1m d2m
              have hdec := rep_dec HRep1.out HRep.out.2.2.2 uV
              have hok := rep_ok (v := V) HRep1.out HRep.out.2.2.2
              have hdecs := fun (i : Nat) (hi : i < 3) => rep_dec (HRep.out.2.1 i hi) HRep.out.2.2.2 uV
              have hoks := fun (i : Nat) (hi : i < 3) => rep_ok (v := V) (HRep.out.2.1 i hi) HRep.out.2.2.2
              have uA1 := HRep1.out.1
              have uB1 := HRep1.out.2.1
              obtain ⟨q, eq⟩ : ∃ q, decide (f' + V ≤ most) = q := ⟨_, rfl⟩
              obtain ⟨f2, ef2⟩ : ∃ y, (if f' + V ≤ most then f' + V else f') = y := ⟨_, rfl⟩
              obtain ⟨A3, eA3⟩ : ∃ y, dA K1 A1 B1 N' most V = y := ⟨_, rfl⟩
              obtain ⟨B3, eB3⟩ : ∃ y, dB K1 A1 B1 N' most V = y := ⟨_, rfl⟩
              rw [eq] at hok
              rw [ef2, eA3, eB3] at hdec
              have hoks2 : ∀ i : Nat, i < 3 → dok ((i : Int) + 1) (S i).1 (S i).2 N' most V = q := fun i hi => by rw [hoks i hi, eq]
              have hdecs2 : ∀ i : Nat, i < 3 → dK ((i : Int) + 1) (S i).1 (S i).2 N' most V = (i : Int) + 1 ∧ Rep ((i : Int) + 1) (dA ((i : Int) + 1) (S i).1 (S i).2 N' most V) (dB ((i : Int) + 1) (S i).1 (S i).2 N' most V) N' most f2 := fun i hi => by
                have := hdecs i hi
                rw [ef2] at this
                exact this
              have HD := Lib.hid (And.intro hdec.1 (And.intro eA3 (And.intro eB3 hok)))
              have HRep3 := Lib.hid hdec.2
              have HO := Lib.hid hoks2
              have HDs := Lib.hid hdecs2
              clear hdec hok hdecs hoks eq ef2 eA3 eB3 hoks2 hdecs2
              have hBn := HBn.out
              obtain ⟨b0, b1, b2, -, -, -⟩ := hBn
              go_wp2_with fail
              refine (kDecide K1 A1 B1 N' most V uA1 uB1 uN' uM uV _).mono ?_
              rw [HD.out.1, HD.out.2.1, HD.out.2.2.1, HD.out.2.2.2]
              rintro e w3 ⟨rfl, hb⟩
              have hx3 : Ext w w3 := hxn.trans hb
              have hB3 := HBn.out.ext hb
              have hR3 := HRn.out.ext hb
              obtain ⟨b0', b1', b2', g0', g1', g2'⟩ := hB3
              have hplt : p < w3.heap.size := World.block_lt_of_cell? w3 _ b0'
              clear b0 b1 b2
              go_wp2
              obtain ⟨Wd, eW, hxd, HRd, HBd⟩ : ∃ Wd, (((w3.setCell ⟨p, 0, none⟩ (.int .u8 K1)).setCell ⟨p, 1, none⟩ (.int .u64 A3)).setCell ⟨p, 2, none⟩ (.int .u64 B3)).alloc (.cells #[.int .u8 K1, .int .u64 A3, .int .u64 B3] 34) = Wd ∧ Ext w Wd ∧ Hid (Row3 Wd g S) ∧ Hid (Box3 Wd p K1 A3 B3) := by
                refine ⟨_, rfl, ?_, Lib.hid ?_, Lib.hid ?_⟩
                · exact (((hx3.setCell (show w.heap.size ≤ p from hpw) _).setCell (show w.heap.size ≤ p from hpw) _).setCell (show w.heap.size ≤ p from hpw) _).alloc _
                · exact (((hR3.far _ _ (Ne.symm hpg)).far _ _ (Ne.symm hpg)).far _ _ (Ne.symm hpg)).ext ((Ext.refl _).alloc _)
                · exact (Box3.put ⟨b0', b1', b2', g0', g1', g2'⟩).ext ((Ext.refl _).alloc _)
              rw [eW]
              clear eW b0' b1' b2' g0' g1' g2' hR3 hx3 hxn HRn HBn hb hplt
              go_loopw [20] (fun k wi => ∃ n : Nat, ∃ S2 : Nat → Int × Int, n ≤ 3 ∧ k = .int .i64 n ∧ Ext w wi ∧ Hid (Row3 wi g S2) ∧ Hid (Box3 wi p K1 A3 B3) ∧ Hid (∀ i : Nat, i < 3 → (if i < n then Rep ((i : Int) + 1) (S2 i).1 (S2 i).2 N' most f2 else S2 i = S i))) (fun k _ => 3 - (intOf k).toNat)
              case atStart => exact ⟨0, S, by omega, rfl, hxd, HRd, HBd, Lib.hid (fun i hi => by rw [if_neg (by omega)])⟩
              case round =>
                obtain ⟨n, S2, hn, rfl, hxi, hRi, hBi, hQ⟩ := hrel
                by_cases hlt3 : n < 3
                · obtain ⟨r0, r1, r2, -, -, -⟩ := hRi.out n hlt3
                  have hS : S2 n = S n := by have := hQ.out n hlt3; rwa [if_neg (Nat.lt_irrefl n)] at this
                  rw [hS] at r1 r2
                  have hdn := HDs.out n hlt3
                  have hon := HO.out n hlt3
                  have uA4 := (HRep.out.2.1 n hlt3).1
                  have uB4 := (HRep.out.2.1 n hlt3).2.1
                  obtain ⟨a0, ea0⟩ : ∃ y, (S n).1 = y := ⟨_, rfl⟩
                  obtain ⟨b0, eb0⟩ : ∃ y, (S n).2 = y := ⟨_, rfl⟩
                  rw [ea0] at r1 hdn hon uA4
                  rw [eb0] at r2 hdn hon uB4
                  obtain ⟨a4, ea4⟩ : ∃ y, dA ((n : Int) + 1) a0 b0 N' most V = y := ⟨_, rfl⟩
                  obtain ⟨b4, eb4⟩ : ∃ y, dB ((n : Int) + 1) a0 b0 N' most V = y := ⟨_, rfl⟩
                  rw [ea4, eb4] at hdn
                  have HN := Lib.hid (And.intro hdn.1 (And.intro ea4 (And.intro eb4 hon)))
                  have HRn4 := Lib.hid hdn.2
                  have hln1 : (n : Int) < 3 := by omega
                  clear hS hdn hon ea0 eb0 ea4 eb4
                  go_wp2_with fail
                  refine (kDecide ((n : Int) + 1) a0 b0 N' most V uA4 uB4 uN' uM uV _).mono ?_
                  rw [HN.out.1, HN.out.2.1, HN.out.2.2.1, HN.out.2.2.2]
                  rintro e w5 ⟨rfl, hb⟩
                  have hx5 : Ext w w5 := hxi.trans hb
                  have hR5 := hRi.out.ext hb
                  have hB5 := hBi.out.ext hb
                  obtain ⟨r0', r1', r2', f0', f1', f2'⟩ := hR5 n hlt3
                  have hglt : g < w5.heap.size := World.block_lt_of_cell? w5 _ r0'
                  clear r0 r1 r2
                  go_wp2
                  obtain ⟨t, et⟩ : ∃ t, w5.heap.size = t := ⟨_, rfl⟩
                  obtain ⟨We, eW, hxe, HRe, HBe, HTe⟩ : ∃ We, (((w5.setCell ⟨g, n * 3, none⟩ (.int .u8 ((n : Int) + 1))).setCell ⟨g, n * 3 + 1, none⟩ (.int .u64 a4)).setCell ⟨g, n * 3 + 2, none⟩ (.int .u64 b4)).alloc (.cells #[.int .u8 ((n : Int) + 1), .int .u64 a4, .int .u64 b4] 34) = We ∧ Ext w We ∧ Hid (Row3 We g (fun i => if i = n then (a4, b4) else S2 i)) ∧ Hid (Box3 We p K1 A3 B3) ∧ Hid (Box3 We t ((n : Int) + 1) a4 b4) := by
                    refine ⟨_, rfl, ?_, Lib.hid ?_, Lib.hid ?_, Lib.hid ?_⟩
                    · exact (((hx5.setCell (show w.heap.size ≤ g from hg) _).setCell (show w.heap.size ≤ g from hg) _).setCell (show w.heap.size ≤ g from hg) _).alloc _
                    · exact (Row3.put hR5 n hlt3 a4 b4).ext ((Ext.refl _).alloc _)
                    · exact (((hB5.far _ _ hpg).far _ _ hpg).far _ _ hpg).ext ((Ext.refl _).alloc _)
                    · rw [← et]; exact ⟨by go_simp, by go_simp, by go_simp, by go_simp, by go_simp, by go_simp⟩
                  rw [eW, et]
                  have uA5 := HRn4.out.1
                  have uB5 := HRn4.out.2.1
                  have uA6 := HRep3.out.1
                  have uB6 := HRep3.out.2.1
                  have F1 := fun (w' : World) => kFill ((n : Int) + 1) a4 b4 N' most uA5 uB5 uN' uM w'
                  have F2 := fun (w' : World) => kFill K1 A3 B3 N' most uA6 uB6 uN' uM w'
                  have F3 := fun (w' : World) => kUntil ((n : Int) + 1) a4 b4 N' most uA5 uB5 uN' uM w'
                  have F4 := fun (w' : World) => kUntil K1 A3 B3 N' most uA6 uB6 uN' uM w'
                  rw [rep_fil HRn4.out HRep.out.2.2.2] at F1
                  rw [rep_fil HRep3.out HRep.out.2.2.2] at F2
                  rw [rep_until HRn4.out HRep.out.2.2.2] at F3
                  rw [rep_until HRep3.out HRep.out.2.2.2] at F4
                  obtain ⟨u, eu⟩ : ∃ u, (if f2 > 0 then uadd N' f2 else 0) = u := ⟨_, rfl⟩
                  rw [eu] at F3 F4
                  have G1 := Lib.hid F1
                  have G2 := Lib.hid F2
                  have G3 := Lib.hid F3
                  have G4 := Lib.hid F4
                  have y0 : ∀ w', Ext We w' → w'.cell? ⟨t, 0, none⟩ = some (.int .u8 ((n : Int) + 1)) := fun w' hz => hz.reads HTe.out.1
                  have y1 : ∀ w', Ext We w' → w'.cell? ⟨t, 1, none⟩ = some (.int .u64 a4) := fun w' hz => hz.reads HTe.out.2.1
                  have y2 : ∀ w', Ext We w' → w'.cell? ⟨t, 2, none⟩ = some (.int .u64 b4) := fun w' hz => hz.reads HTe.out.2.2.1
                  have y3 : ∀ w', Ext We w' → w'.cell? ⟨p, 0, none⟩ = some (.int .u8 K1) := fun w' hz => hz.reads HBe.out.1
                  have y4 : ∀ w', Ext We w' → w'.cell? ⟨p, 1, none⟩ = some (.int .u64 A3) := fun w' hz => hz.reads HBe.out.2.1
                  have y5 : ∀ w', Ext We w' → w'.cell? ⟨p, 2, none⟩ = some (.int .u64 B3) := fun w' hz => hz.reads HBe.out.2.2.1
                  have HW1 := Lib.hid (show IntKind.i64.wrap ((n : Int) + 1) = (n : Int) + 1 from IntWalk.i64_in _ ⟨by omega, by omega⟩)
                  have HW2 := Lib.hid (show IntKind.u8.wrap ((n : Int) + 1) = (n : Int) + 1 by rw [IntKind.wrap_u8]; omega)
                  have hw1 := HW1.out
                  have hw2 := HW2.out
                  clear F1 F2 F3 F4 eu eW et uA5 uB5 uA6 uB6 r0' r1' r2' f0' f1' f2' hR5 hB5 hx5 hglt hb uA4 uB4
                  go_region_held3 (Ext We)
                    (first
                      | exact Ext.trans (by assumption) hb
                      | repeat (first | exact Ext.refl _ | assumption | apply Ext.drew | apply Ext.alloc | (refine Ext.setCell ?_ (by simp <;> omega) _) | refine Ext.trans ?_ (by assumption)))
                    (first
                      | (go_at_call_has 32 a4; refine (G1.out _).mono ?_; rintro e w6 ⟨rfl, hb⟩)
                      | (go_at_call_has 32 A3; refine (G2.out _).mono ?_; rintro e w7 ⟨rfl, hb⟩)
                      | (go_at_call_has 33 a4; refine (G3.out _).mono ?_; rintro e w8 ⟨rfl, hb⟩)
                      | (go_at_call_has 33 A3; refine (G4.out _).mono ?_; rintro e w9 ⟨rfl, hb⟩))
                  clear y0 y1 y2 y3 y4 y5 hw1 hw2
                  have hx9 : Ext We w9 := by assumption
                  go_wp2
                  go_roundw
                  case rel =>
                    refine ⟨n + 1, fun i => if i = n then (a4, b4) else S2 i, by omega, by simp, hxe.trans hx9, Lib.hid (HRe.out.ext hx9), Lib.hid (HBe.out.ext hx9), Lib.hid (fun i hi => ?_)⟩
                    by_cases e : i = n
                    · subst e
                      rw [if_pos (Nat.lt_succ_self _)]
                      dsimp only
                      rw [if_pos rfl]
                      exact HRn4.out
                    · have := hQ.out i hi
                      dsimp only
                      rw [if_neg e]
                      by_cases h : i < n
                      · rw [if_pos (by omega)]; rwa [if_pos h] at this
                      · rw [if_neg (by omega)]; rwa [if_neg h] at this
                  case measure => simp [intOf]; omega
                · obtain rfl : n = 3 := by omega
                  go_wp2
                  go_roundw
                  case rel =>
                    refine ⟨j + 1, N', f2, K1, A3, B3, S2, by omega, by simp, rfl, hxi, Lib.hid ⟨HRep.out.2.2.1.1, HRep.out.2.2.1.2, HRep3.out, fun i hi => ?_⟩, hRi, hBi⟩
                    have := hQ.out i hi
                    rwa [if_pos hi] at this
                  case measure => simp [intOf]; omega
          · obtain rfl : j = len := by omega
            have hl1 : ¬ (j : Int) < (j : Int) := by omega
            go_wp2_with fail
            refine (kKnown _).mono ?_
            rintro e w2 ⟨rfl, hb⟩
            go_wp2
            go_ret
            exact ⟨rfl, by repeat (first | exact Ext.refl _ | assumption | apply Ext.drew | apply Ext.alloc | (refine Ext.setCell ?_ (by simp <;> omega) _) | refine Ext.trans ?_ (by assumption))⟩
  · have hl : (60 : Int) < (len : Int) := by omega
    clear hS
    go_enter Try.func13, Try.ntmps13
    go_wp2_with fail
    refine (kKnown _).mono ?_
    rintro e w1 ⟨rfl, hx1⟩
    go_wp2
    go_ret
    exact ⟨rfl, by repeat (first | exact Ext.refl _ | assumption | apply Ext.drew | apply Ext.alloc | (refine Ext.setCell ?_ (by simp <;> omega) _) | refine Ext.trans ?_ (by assumption))⟩

end Go.Proofs.Ytfabgfenelaheaa
