/- TopWire's tied card: for every input the call returns true, and the arguments read behind the call as they read before; what the listed variable holds is tied to the program's text. -/
import Derived.Test.YtdgcgpapcbjfhaaGreatDoorJ46Known
import Derived.Test.YtdgcgpapcbjfhaaGreatDoorJ49OpenW
import Derived.Test.YtdgcgpapcbjfhaaGreatDoorRows
import Derived.Test.YtdgcgpapcbjfhaaGreatDoorDoor
import Derived.ChangeOld
import Derived.Below
import Derived.WalkKit
import Derived.ProofKit
import Derived.OpenShut
import Derived.LaidMore
import Derived.SizedLaws
import Derived.ChangeMaps5
import Derived.Stop.Joined
import Derived.Lib.SmallJoins
import Derived.Test.YtdgcgpapcbjfhaaGreatDoorTie
import Derived.Test.YtdgcgpapcbjfhaaGreatDoorCards
import Derived.SevenTiedAt
set_option linter.unusedVariables false
set_option linter.unusedSimpArgs false

/- TopWire: true, whatever the request, the text, and the choices. -/
namespace Go.Proofs.YtdgcgpapcbjfhaaGreatDoor
open Go.RowKit

theorem conv_bytesF (w : World) (s : ByteArray) : ∃ W cap, (convert 9 22 (.string s)).run Tryz.prog w = .ok (.slice (some ⟨w.heap.size, 0, none⟩) s.size cap) W ∧ Ext w W ∧ W.heap.size = w.heap.size + 1 ∧
    (∀ i, i < s.size → W.cell? ⟨w.heap.size, i, none⟩ = some (.int .u8 (((bs s).getD i 0).toNat : Int))) ∧ ∀ i, i < s.size → W.frozen? ⟨w.heap.size, i, none⟩ = false := by
  refine ⟨_, _, run_bytes_of_string w _ _ _ s Tryz.underlying9 Tryz.underlying22 Tryz.underlying5, (Ext.refl w).drew.alloc _, ?_, fun i hi => ?_, fun i hi => ?_⟩
  · simp
  · rw [show (⟨w.heap.size, i, none⟩ : Addr) = ⟨w.drew.heap.size, i, none⟩ from rfl, World.cell?_alloc_mark]; exact bytesRow_get s _ i hi
  · rw [show (⟨w.heap.size, i, none⟩ : Addr) = ⟨w.drew.heap.size, i, none⟩ from rfl, World.frozen?_alloc_mark]
    have := (Array.getElem?_eq_some_iff.1 (bytesRow_get s (grownCap w s.size 0 5) i hi)).1
    rw [Bool.and_eq_false_iff]
    exact .inl (decide_eq_false (by omega))
/-- one byte is turned -/
theorem bytes_set {W : World} {b : Nat} {l : List UInt8} (h : ∀ i, i < l.length → W.cell? ⟨b, i, none⟩ = some (.int .u8 ((l.getD i 0).toNat : Int))) {i : Nat} (hi : i < l.length) {z : Nat} (hz : z < 256) : IsBytes (W.setCell ⟨b, i, none⟩ (.int .u8 (z : Int))) (some ⟨b, 0, none⟩) (l.set i (UInt8.ofNat z)) := by
  refine .inr ⟨b, 0, rfl, fun j hj => ?_⟩
  rw [List.length_set] at hj
  rw [Nat.zero_add]
  by_cases h2 : j = i
  · subst h2
    rw [World.cell?_setCell_same _ _ _ (h j hj), List.getD_eq_getElem?_getD, List.getElem?_set_self hj]
    simp <;> omega
  · rw [World.cell?_setCell_other (h := by simp <;> omega), h j hj, List.getD_eq_getElem?_getD, List.getD_eq_getElem?_getD, List.getElem?_set_ne (by omega)]

set_option maxRecDepth 100000 in
set_option maxHeartbeats 3200000 in
theorem pTopWire (ba ta na ca : Option Addr) (bc tc nc cc : Nat) (l tx cl : List UInt8) (most nlen A X n : Nat) (s : ByteArray)
    (hl : l.length ≤ 140737488355328) (ht : tx.length ≤ 140737488355328) (hs : s.size ≤ 140737488355328) (hcl : cl.length ≤ maxLen) (htc : tx.length ≤ tc) (hmo : most ≤ 65535) (hA : A ≤ 65535) (hX : X ≤ 255) (hn : n ≤ 18446744073709551615) (w : World)
    (hb : IsBytes w ba l) (htb : IsBytes w ta tx) (hcb : IsBytes w ca cl) (hN : IsNums w na nlen) :
    Calls Tryz.prog 3 #[.slice ba l.length bc, .slice ta tx.length tc, .int .u16 most, .slice na nlen nc, .int .u16 A, .int .u8 X, .string s, .slice ca cl.length cc, .int .u64 n] w fun e w' => e = .returned (.bool true) ∧ Ext w w' := by
  by_cases hbig : 500 < l.length + tx.length + s.size
  · have hK := fun W => pKnown W
    have hg : (500 : Int) < (l.length : Int) + (tx.length : Int) + (s.size : Int) := by omega
    clear hb htb hcb hN
    go_enter Tryz.func3, Tryz.ntmps3
    go_wp2_with fail
    refine (hK _).mono ?_
    rintro e w1 ⟨rfl, hx⟩
    go_wp2
    go_ret
    exact ⟨rfl, hx⟩
  · have hg : ¬ (500 : Int) < (l.length : Int) + (tx.length : Int) + (s.size : Int) := by omega
    have hPo := lPolicy most hmo na nlen nc w hN
    have hKn := fun W => pKnown W
    have hKy := fun W (hx : Ext w W) => lKey ca cc cl hcl W (hcb.ext hx)
    have hPr := fun W => rPrint3 n hn W
    have hps := prt_size n hn
    generalize prt n = PN at *
    have hT1 := fun W (hx : Ext w W) => pTaken ba ta bc tc l tx (by omega) (by omega) htc W (hb.ext hx) (htb.ext hx)
    clear hN hcb
    go_enter Tryz.func3, Tryz.ntmps3
    go_wp2_with fail
    refine hPo.mono ?_
    rintro e w1 ⟨m, v, rs, rfl, hv, m1, m2, hrl, hok, hx1⟩
    have hBe := fun W (hx : Ext w1 W) => lBent m v rs m1 (by omega) hrl hok.ok hok.len hok.dft hok.apart A hA X hX s (by omega) W (hv.ext hx)
    obtain ⟨va, vc, rfl, -⟩ := hv.form
    unfold plV at *
    have hx1H := Lib.hid hx1
    clear hPo hv hx1
    go_wp2_with fail
    refine (hBe w1 (Ext.refl _)).mono ?_
    rintro e w2 ⟨oa, oc, ol, rfl, ho1, ho2, ho3, hx2⟩
    have hx02 := Lib.hid (hx1H.out.trans hx2)
    have hoH := Lib.hid ho3
    clear hBe hx2 ho3
    go_wp2_with fail
    refine (hKy w2 hx02.out).mono ?_
    rintro e w3 ⟨S, rfl, hSk, hSs, hx3⟩
    have hx03 := Lib.hid (hx02.out.trans hx3)
    have hx23 := Lib.hid hx3
    have z2 : ¬ 9223372036854775807 < 6 + S.size := by omega
    have z3 : ¬ 9223372036854775807 < 6 + S.size + 1 := by omega
    have z4 : ¬ 9223372036854775807 < 6 + S.size + 1 + PN.size := by omega
    obtain ⟨QS, hQS⟩ : ∃ Q : ByteArray, (⟨#[67, 72, 69, 67, 75, 32]⟩ : ByteArray) ++ S ++ (⟨#[32]⟩ : ByteArray) ++ PN = Q := ⟨_, rfl⟩
    have hQn : QS.size = 6 + S.size + 1 + PN.size := by
      rw [← hQS, ByteArray.size_append, ByteArray.size_append, ByteArray.size_append]; rfl
    obtain ⟨W4, qcap, hcv, hx34, hW4s, hqc, hqf⟩ := conv_bytesF w3 QS
    clear hKy hx3 hSk
    go_wp2_with fail
    refine (hPr _).mono ?_
    rintro e w9 ⟨rfl, rfl⟩
    obtain ⟨N, hN⟩ : ∃ N, QS.size = N := ⟨_, rfl⟩
    rw [hN] at hQn
    have hQl1 : 6 ≤ N := by omega
    have hQl2 : N ≤ 100 := by omega
    clear hQn
    have hI : A % N < N := Nat.mod_lt _ (by omega)
    obtain ⟨I, hIn⟩ : ∃ I, A % N = I := ⟨_, rfl⟩
    rw [hIn] at hI
    have hIc : (A : Int) % (N : Int) = (I : Int) := by rw [← hIn]; simp
    clear hIn
    have hNn : ¬ (N : Int) = 0 := by omega
    have hqI := hqc I (by omega)
    have hqIf := hqf I (by omega)
    obtain ⟨zq, hzq⟩ : ∃ z, ((bs QS).getD I 0).toNat = z := ⟨_, rfl⟩
    have hzl : zq < 256 := by rw [← hzq]; exact ((bs QS).getD I 0).toNat_lt
    rw [hzq] at hqI
    have hbl := World.block_lt_of_cell? W4 _ hqI
    have hqcH := Lib.hid hqc
    clear hPr hqc hqf
    go_wp2_with fail
    obtain ⟨x, hx⟩ : ∃ x, bits BinOp.xor .u8 (zq : Int) (bits BinOp.and .u8 (X : Int) 3) = x := ⟨_, rfl⟩
    have hx0 : 0 ≤ x := by rw [← hx]; exact bits_lo_u8 _ _ _
    have hx1 : x ≤ 255 := by rw [← hx]; exact bits_hi_u8 _ _ _
    obtain ⟨z, rfl⟩ : ∃ z : Nat, x = (z : Int) := ⟨x.toNat, by omega⟩
    have hz : z < 256 := by omega
    rw [hx]
    obtain ⟨W5, hW5⟩ : ∃ W, W4.setCell ⟨w3.heap.size, I, none⟩ (.int .u8 (z : Int)) = W := ⟨_, rfl⟩
    rw [hW5]
    have hq5 : IsBytes W5 (some ⟨w3.heap.size, 0, none⟩) ((bs QS).set I (UInt8.ofNat z)) := by
      rw [← hW5]
      exact bytes_set (fun i hi => hqcH.out i (by rw [← bs_length]; exact hi)) (by rw [bs_length, hN]; exact hI) hz
    have hql : ((bs QS).set I (UInt8.ofNat z)).length = N := by rw [List.length_set, bs_length, hN]
    generalize (bs QS).set I (UInt8.ofNat z) = ql at hq5 hql
    have hx5 : Ext w W5 := by
      rw [← hW5]
      exact (hx03.out.trans hx34).setCell hx03.out.size _
    have hx25 : Ext w2 W5 := by
      rw [← hW5]
      exact (hx23.out.trans hx34).setCell hx23.out.size _
    have ho5 := hoH.out.ext hx25
    have hTqo := fun W (hx : Ext W5 W) => pTaken (some ⟨w3.heap.size, 0, none⟩) oa qcap oc ql ol (by omega) (by omega) ho1 W (hq5.ext hx) (ho5.ext hx)
    have hTqt := fun W (hx : Ext W5 W) => pTaken (some ⟨w3.heap.size, 0, none⟩) ta qcap tc ql tx (by omega) (by omega) htc W (hq5.ext hx) ((htb.ext hx5).ext hx)
    have hTbo := fun W (hx : Ext W5 W) => pTaken ba oa bc oc l ol (by omega) (by omega) ho1 W ((hb.ext hx5).ext hx) (ho5.ext hx)
    rw [hql] at hTqo hTqt
    have hx5H := Lib.hid hx5
    clear hW5 hx hx0 hx1 hz hx5 hx25 ho5 hq5 hql hqI hqIf hbl hcv hx34 hqcH hx02 hx03 hx23 hoH hb htb
    refine (hKn W5).mono ?_
    rintro e w5 ⟨rfl, hy5⟩
    have hx05 := Lib.hid (hx5H.out.trans hy5)
    have hz5 := Lib.hid hy5
    clear hy5
    go_wp2_with fail
    refine (hT1 w5 hx05.out).mono ?_
    rintro e w6 ⟨rfl, hy⟩
    have hx06 := Lib.hid (hx05.out.trans hy)
    have hz6 := Lib.hid (hz5.out.trans hy)
    clear hy hT1
    go_wp2_with fail
    refine (hTqo w6 hz6.out).mono ?_
    rintro e w7 ⟨rfl, hy⟩
    have hx07 := Lib.hid (hx06.out.trans hy)
    have hz7 := Lib.hid (hz6.out.trans hy)
    clear hy hTqo
    go_wp2_with fail
    refine (hTqt w7 hz7.out).mono ?_
    rintro e w8 ⟨rfl, hy⟩
    have hx08 := Lib.hid (hx07.out.trans hy)
    have hz8 := Lib.hid (hz7.out.trans hy)
    clear hy hTqt
    go_wp2_with fail
    refine (hTbo w8 hz8.out).mono ?_
    rintro e w9 ⟨rfl, hy⟩
    have hx09 := Lib.hid (hx08.out.trans hy)
    have hz9 := Lib.hid (hz8.out.trans hy)
    clear hy hTbo
    go_wp2
    go_ret
    exact ⟨rfl, hx09.out⟩

end Go.Proofs.YtdgcgpapcbjfhaaGreatDoor

/- TopWire: for every input the call returns true, and the arguments read behind the call as they read before. -/
namespace Go.Proofs.YtdgcgpapcbjfhaaGreatDoor.topWire
open Go.ChangeShapes Go.WideShapes Go.ChangeAt Go.RowKit Go.Joins Go.ChangeMaps Go.Proofs.YtdgcgpapcbjfhaaGreatDoor

theorem byte8 : Tryz.prog.bytesOf 5 = 1 := by kernel_rfl
def lay {H : Type} : List (String × DataW H) := [("bytes.ErrTooLarge", Rows.laid_bytes_ErrTooLarge)]

theorem open_row8L {H : Type} {enc : TypeId × Value → H} {w : World} {base : Nat} {spare : Nat → Bool} {held : Bool} {fuel : Nat} {a : Option Addr} {len cap : Nat} {x : DataW H × List MemPlace} {B : Nat}
    (h : DataW.trod enc Tryz.prog w base spare held fuel 22 [.slice a len cap] = some x) (hs : ∀ es sp, x.1 = .slice es sp → es.length + sp.length ≤ B) : ∃ l : List UInt8, l.length = len ∧ len ≤ cap ∧ len ≤ maxLen ∧ len ≤ B ∧ IsBytes w a l := by
  have hB : len ≤ B := by
    rcases open_ints Tryz.underlying22 Tryz.underlying5 cells8 h with ⟨hcs, hx⟩ | ⟨a, len, cap, zs, hcs, _, hl, hm, hz, hx, hcell, hwz⟩
    · simp at hcs
      omega
    · simp at hcs
      obtain ⟨rfl, rfl, rfl⟩ := hcs
      have := hs _ _ (by rw [hx])
      simp [lits] at this
      have hzl : len ≤ zs.length := by rw [hz]; split <;> omega
      omega
  obtain ⟨a', cap', l, e, h1, h2, h3⟩ := open_row8 h
  simp at e
  obtain ⟨rfl, rfl, rfl⟩ := e
  exact ⟨l, rfl, h1, Nat.le_trans h1 h2, hB, h3⟩

set_option maxRecDepth 100000 in
theorem lifted (os : Os) (started : os.Started) (H : Type) (enc : TypeId × Value → H) :
    ReturnsInHanded {} Tryz.checked os 3 .any (fun w args => (Rows.topWireSpec.pre enc Tryz.prog Tryz.f3 [] false w args ∧ laidMetH Tryz.prog Rows.topWireRow.laid w) ∧ sizedMet enc Tryz.prog Tryz.f3 (OpenSpec.ofChange Rows.topWireSpec) false w args)
      (Rows.topWireSpec.post enc Tryz.prog Tryz.f3 false true false false) := by
  refine returnsInHanded_of_change_and (C := Tryz.checked) (X := fun w _ => laidMetH Tryz.prog Rows.topWireRow.laid w) (fun _ _ _ hh h => h.of_heap hh) own started (by kernel_rfl) Tryz.func3
    (wit os H enc) ?_
  intro W base args ds gs before hval0 hW _ hsz _ _
  have hval : ∀ (j : Nat) t v, Tryz.f3.params[j]? = some t → args[j]? = some v → Value.okWide Tryz.prog W .any base t v := hval0
  have hW' := hW
  obtain ⟨p, q, hA0, hV, rfl, hfz, hnd⟩ := hW'
  have hA : DataW.TrodAll enc Tryz.prog W 0 (fun _ => true) true Tryz.f3.params.toList args.toList ds p := hA0
  rw [Tryz.params3] at hA hval
  obtain ⟨v0, vs0, d0, ds0, p0, q0, hargs, rfl, rfl, h0, r0⟩ := trodAll_cons hA
  obtain ⟨v1, vs1, d1, ds1, p1, q1, rfl, rfl, rfl, h1, r1⟩ := trodAll_cons r0
  obtain ⟨v2, vs2, d2, ds2, p2, q2, rfl, rfl, rfl, h2, r2⟩ := trodAll_cons r1
  obtain ⟨v3, vs3, d3, ds3, p3, q3, rfl, rfl, rfl, h3, r3⟩ := trodAll_cons r2
  obtain ⟨v4, vs4, d4, ds4, p4, q4, rfl, rfl, rfl, h4, r4⟩ := trodAll_cons r3
  obtain ⟨v5, vs5, d5, ds5, p5, q5, rfl, rfl, rfl, h5, r5⟩ := trodAll_cons r4
  obtain ⟨v6, vs6, d6, ds6, p6, q6, rfl, rfl, rfl, h6, r6⟩ := trodAll_cons r5
  obtain ⟨v7, vs7, d7, ds7, p7, q7, rfl, rfl, rfl, h7, r7⟩ := trodAll_cons r6
  obtain ⟨v8, vs8, d8, ds8, p8, q8, rfl, rfl, rfl, h8, r8⟩ := trodAll_cons r7
  obtain ⟨rfl, rfl, rfl⟩ := trodAll_nil r8
  obtain rfl : args = #[v0, v1, v2, v3, v4, v5, v6, v7, v8] := by cases args; simp_all
  obtain ⟨rfl, rfl⟩ := trodVars_none hV
  have hps : Tryz.f3.params.toList = [22, 22, 23, 24, 23, 5, 9, 22, 25] := by rw [Tryz.params3]
  have hsz1 : (DataW.weightsEach Tryz.prog (Tryz.f3.params.toList ++ Rows.topWireSpec.plain.varTypes Tryz.prog) ([d0, d1, d2, d3, d4, d5, d6, d7, d8] ++ [])).all (· ≤ reachBytes) = true := hsz
  rw [hps] at hsz1
  obtain ⟨a0, len0, cap0, rfl⟩ := okWide_slice Tryz.underlying22 (hval 0 22 v0 rfl rfl)
  have k0 := h0
  have lt0 : ∀ x ∈ p0, x.block < W.heap.size := by obtain ⟨m, hm⟩ := k0; exact DataW.trod_lt m _ _ _ hm
  obtain ⟨l0, hl0, hc0, hm0, hB0, w0⟩ : ∃ l : List UInt8, l.length = len0 ∧ len0 ≤ cap0 ∧ len0 ≤ maxLen ∧ len0 ≤ reachBytes ∧ IsBytes W a0 l := by
    obtain ⟨fuel, hf⟩ := h0
    simp only [Value.cells] at hf
    refine open_row8L hf fun es sp he => ?_
    have hj := sized_slice hsz1 (j := 0) (t := 22) (e := 5) (elems := es) (spare := sp) rfl (by rw [← he]; rfl) Tryz.underlying22
    rw [byte8] at hj
    omega
  subst hl0
  obtain ⟨a1, len1, cap1, rfl⟩ := okWide_slice Tryz.underlying22 (hval 1 22 v1 rfl rfl)
  have k1 := h1
  have lt1 : ∀ x ∈ p1, x.block < W.heap.size := by obtain ⟨m, hm⟩ := k1; exact DataW.trod_lt m _ _ _ hm
  obtain ⟨l1, hl1, hc1, hm1, hB1, w1⟩ : ∃ l : List UInt8, l.length = len1 ∧ len1 ≤ cap1 ∧ len1 ≤ maxLen ∧ len1 ≤ reachBytes ∧ IsBytes W a1 l := by
    obtain ⟨fuel, hf⟩ := h1
    simp only [Value.cells] at hf
    refine open_row8L hf fun es sp he => ?_
    have hj := sized_slice hsz1 (j := 1) (t := 22) (e := 5) (elems := es) (spare := sp) rfl (by rw [← he]; rfl) Tryz.underlying22
    rw [byte8] at hj
    omega
  subst hl1
  obtain ⟨z2, rfl, rfl, rfl, w2⟩ := open_int Tryz.underlying23 (hval 2 23 v2 rfl rfl) h2
  have bd2 := bounds_u16 w2
  obtain ⟨x2, rfl⟩ : ∃ x : Nat, z2 = x := ⟨z2.toNat, by omega⟩
  obtain ⟨a3, len3, cap3, rfl⟩ := okWide_slice Tryz.underlying24 (hval 3 24 v3 rfl rfl)
  have k3 := h3
  have lt3 : ∀ x ∈ p3, x.block < W.heap.size := by obtain ⟨m, hm⟩ := k3; exact DataW.trod_lt m _ _ _ hm
  have w3 : IsNums W a3 len3 := by obtain ⟨fuel, hf⟩ := h3; simp only [Value.cells] at hf; exact open_nums hf
  obtain ⟨z4, rfl, rfl, rfl, w4⟩ := open_int Tryz.underlying23 (hval 4 23 v4 rfl rfl) h4
  have bd4 := bounds_u16 w4
  obtain ⟨x4, rfl⟩ : ∃ x : Nat, z4 = x := ⟨z4.toNat, by omega⟩
  obtain ⟨z5, rfl, rfl, rfl, w5⟩ := open_int Tryz.underlying5 (hval 5 5 v5 rfl rfl) h5
  have bd5 := bounds_u8 w5
  obtain ⟨x5, rfl⟩ : ∃ x : Nat, z5 = x := ⟨z5.toNat, by omega⟩
  obtain ⟨s6, rfl, rfl, rfl, hs6⟩ := open_string Tryz.underlying9 (hval 6 9 v6 rfl rfl) h6
  have hr6 : s6.size ≤ reachBytes := by have hj := sized_string hsz1 (j := 6) (t := 9) (bytes := s6.data.toList) rfl rfl; rw [Array.length_toList] at hj; exact hj
  obtain ⟨a7, len7, cap7, rfl⟩ := okWide_slice Tryz.underlying22 (hval 7 22 v7 rfl rfl)
  have k7 := h7
  have lt7 : ∀ x ∈ p7, x.block < W.heap.size := by obtain ⟨m, hm⟩ := k7; exact DataW.trod_lt m _ _ _ hm
  obtain ⟨l7, hl7, hc7, hm7, hB7, w7⟩ : ∃ l : List UInt8, l.length = len7 ∧ len7 ≤ cap7 ∧ len7 ≤ maxLen ∧ len7 ≤ reachBytes ∧ IsBytes W a7 l := by
    obtain ⟨fuel, hf⟩ := h7
    simp only [Value.cells] at hf
    refine open_row8L hf fun es sp he => ?_
    have hj := sized_slice hsz1 (j := 7) (t := 22) (e := 5) (elems := es) (spare := sp) rfl (by rw [← he]; rfl) Tryz.underlying22
    rw [byte8] at hj
    omega
  subst hl7
  obtain ⟨z8, rfl, rfl, rfl, w8⟩ := open_int Tryz.underlying25 (hval 8 25 v8 rfl rfl) h8
  have bd8 := bounds_u64 w8
  obtain ⟨x8, rfl⟩ : ∃ x : Nat, z8 = x := ⟨z8.toNat, by omega⟩
  have hre := reachBytes_lt
  clear hA0 hval0 hval hsz hsz1
  refine (pTopWire a0 a1 a3 a7 cap0 cap1 cap3 cap7 l0 l1 l7 x2 len3 x4 x5 x8 s6 (by omega) (by omega) (by omega) hm7 hc1 (by omega) (by omega) (by omega) (by omega) W w0 w1 w7 w3).mono fun e W' ⟨he, hg⟩ => ?_
  subst he
  exact ⟨_, rfl, _, _, _, [], _, [], hW, (trodAll_cons_mk (shut_bool Tryz.underlying4 _) trodAll_mk0), (trodAll_cons_mk (Below.trod laidOut (by kernel_rfl) (of_decide_eq_true (by kernel_rfl)) k0 hg lt0) (trodAll_cons_mk (Below.trod laidOut (by kernel_rfl) (of_decide_eq_true (by kernel_rfl)) k1 hg lt1) (trodAll_cons_mk (shut_int Tryz.underlying23 w2) (trodAll_cons_mk (Below.trod laidOut (by kernel_rfl) (of_decide_eq_true (by kernel_rfl)) k3 hg lt3) (trodAll_cons_mk (shut_int Tryz.underlying23 w4) (trodAll_cons_mk (shut_int Tryz.underlying5 w5) (trodAll_cons_mk (shut_string Tryz.underlying9 hs6) (trodAll_cons_mk (Below.trod laidOut (by kernel_rfl) (of_decide_eq_true (by kernel_rfl)) k7 hg lt7) (trodAll_cons_mk (shut_int Tryz.underlying25 w8) trodAll_mk0))))))))), rfl, Below.frame hg _, fun h => by cases h⟩

theorem over : Rows.topWireRow.holds Tryz.pinned (OpenSpec.ofChange Rows.topWireSpec) :=
  OpenClaim.holds_of_wide 3 Tryz.f3 rfl rfl rfl rfl rfl rfl rfl ⟨rfl, rfl, rfl, rfl, rfl⟩ rfl rfl rfl rfl rfl (by kernel_rfl) Tryz.func3 (by kernel_rfl)
    (of_decide_eq_true (by kernel_rfl)) (by unfold Func.isWrapper; first | (rw [if_pos (by decide +kernel)]; kernel_rfl) | (rw [if_neg (by decide +kernel)]; exact ⟨rfl, rfl⟩))
    (fun os started H enc _ => lifted os started H enc)

end Go.Proofs.YtdgcgpapcbjfhaaGreatDoor.topWire

/- TopWire's tied card: for every input the call returns true, and the arguments read behind the call as they read before; what the listed variable holds is tied to the program's text. -/
namespace Go.Proofs.YtdgcgpapcbjfhaaGreatDoor.topWire
open Go

theorem proved : Rows.TopWireCardSaid :=
  Claim7.holds_tied_plain_at .later [] [.sentinel] true (true, "5bc058755a49d714eaa895b27ce9ab830b7ae836a4034cee198aabaea9792f4d") true
    over (fun _ h => by cases h) (by kernel_rfl) (fun _ h => by cases h) topWire_row_tie rfl ⟨rfl, rfl⟩ (by kernel_rfl) rfl
    (fun f fn hf hfn => by
      obtain rfl : f = 3 := Option.some.inj ((show Tryz.prog.funcNamed "toller/tollertop.TopWire" = some 3 by kernel_rfl).symm.trans hf) |>.symm
      obtain rfl : fn = Tryz.f3 := (Option.some.inj (Tryz.func3.symm.trans hfn)).symm
      exact ⟨by kernel_rfl, fun j t ht => by
        rw [Tryz.params3] at ht
        have hm : t ∈ [22, 22, 23, 24, 23, 5, 9, 22, 25] := by simpa using Array.mem_of_getElem? ht
        have hall : ([22, 22, 23, 24, 23, 5, 9, 22, 25].all fun u => !Tryz.prog.wantsStandIn u) = true := by kernel_rfl
        exact (show Tryz.prog.wantsStandIn t = false by simpa using List.all_eq_true.1 hall t hm)⟩)
    (by kernel_rfl)
#print axioms proved

end Go.Proofs.YtdgcgpapcbjfhaaGreatDoor.topWire
