/- Words of an empty text, by the program; of any. -/
import Derived.Test.YtdgcgpapcbjfhaaGreatDoorJ25Split
set_option linter.unusedVariables false
set_option linter.unusedSimpArgs false

/- Words of a text, by the program: the walk. -/
namespace Go.Proofs.YtdgcgpapcbjfhaaGreatDoor
open Go.RowKit

@[local go_sem] theorem run_store_complex {P : Program} (w : World) (a : Addr) (m : Mode) (k : FloatKind) (x y : Nat) : (store a (.complex k x y) m).run P w = stored P w a (.complex k x y) m := run_store P w a _ m rfl

theorem begin8 (w W : World) (tv : Value) (hW : ((((((((w.alloc (.cells #[tv] 22)).alloc (.cells #[.int .i64 0, .int .i64 0] 57)).alloc (.cells #[.slice none 0 0] 85)).alloc (.cells #[.slice none 0 0] 95)).alloc (.cells #[.int .i64 0] 3)).alloc (.cells #[.int .i64 0] 3)).alloc (.cells #[.complex .f64 4607182418800017408 4607182418800017408] 108)).alloc (.cells #[.int .i64 1] 3)) = W) :
    SBx w.heap.size tv W (.slice none 0 0) (.slice none 0 0) 0 0 1 1 1 ∧ Ext w W ∧ W.heap.size = w.heap.size + 8 := by
  have e1 : Fl 1 = 4607182418800017408 := by decide
  have c00 : W.cell? ⟨w.heap.size, 0, none⟩ = some (tv) := by subst hW; go_simp
  have c10 : W.cell? ⟨w.heap.size + 1, 0, none⟩ = some (.int .i64 0) := by subst hW; go_simp
  have c11 : W.cell? ⟨w.heap.size + 1, 1, none⟩ = some (.int .i64 0) := by subst hW; go_simp
  have c20 : W.cell? ⟨w.heap.size + 1 + 1, 0, none⟩ = some (.slice none 0 0) := by subst hW; go_simp
  have c30 : W.cell? ⟨w.heap.size + 1 + 1 + 1, 0, none⟩ = some (.slice none 0 0) := by subst hW; go_simp
  have c40 : W.cell? ⟨w.heap.size + 1 + 1 + 1 + 1, 0, none⟩ = some (.int .i64 0) := by subst hW; go_simp
  have c50 : W.cell? ⟨w.heap.size + 1 + 1 + 1 + 1 + 1, 0, none⟩ = some (.int .i64 0) := by subst hW; go_simp
  have c60 : W.cell? ⟨w.heap.size + 1 + 1 + 1 + 1 + 1 + 1, 0, none⟩ = some (.complex .f64 4607182418800017408 4607182418800017408) := by subst hW; go_simp
  have c70 : W.cell? ⟨w.heap.size + 1 + 1 + 1 + 1 + 1 + 1 + 1, 0, none⟩ = some (.int .i64 1) := by subst hW; go_simp
  have f10 : W.frozen? ⟨w.heap.size + 1, 0, none⟩ = false := by subst hW; go_simp
  have f11 : W.frozen? ⟨w.heap.size + 1, 1, none⟩ = false := by subst hW; go_simp
  have f20 : W.frozen? ⟨w.heap.size + 1 + 1, 0, none⟩ = false := by subst hW; go_simp
  have f30 : W.frozen? ⟨w.heap.size + 1 + 1 + 1, 0, none⟩ = false := by subst hW; go_simp
  have f40 : W.frozen? ⟨w.heap.size + 1 + 1 + 1 + 1, 0, none⟩ = false := by subst hW; go_simp
  have f50 : W.frozen? ⟨w.heap.size + 1 + 1 + 1 + 1 + 1, 0, none⟩ = false := by subst hW; go_simp
  have f60 : W.frozen? ⟨w.heap.size + 1 + 1 + 1 + 1 + 1 + 1, 0, none⟩ = false := by subst hW; go_simp
  have f70 : W.frozen? ⟨w.heap.size + 1 + 1 + 1 + 1 + 1 + 1 + 1, 0, none⟩ = false := by subst hW; go_simp
  refine ⟨⟨c00, c10, c11, c20, c30, c40, c50, by rw [e1]; exact c60, c70, f10, f11, f20, f30, f40, f50, f60, f70⟩, ?_, ?_⟩
  · subst hW; repeat (first | exact Ext.refl _ | assumption | apply Ext.drew | apply Ext.alloc | (refine Ext.setCell ?_ (by simp <;> omega) _) | refine Ext.trans ?_ (by assumption))
  · subst hW; simp

def sK (H : Nat) : Value := .func (.func 53) #[] #[.pointer (some ⟨H + 7, 0, none⟩), .pointer (some ⟨H + 6, 0, none⟩), .pointer (some ⟨H + 5, 0, none⟩), .pointer (some ⟨H + 4, 0, none⟩), .pointer (some ⟨H + 3, 0, none⟩), .pointer (some ⟨H, 0, none⟩)]

def sL (H : Nat) : Value := .func (.func 55) #[] #[.pointer (some ⟨H + 3, 0, none⟩), .pointer (some ⟨H + 2, 0, none⟩)]

def sJ (l : List UInt8) (b off cap : Nat) (w : World) : Act → World → Prop := fun a' wr => ∃ (k n fl fr was rb : Nat) (ls : List (List Wd)) (ws : List Wd) (o : Option Nat) (vs : List Value) (ov rv : Value) (u2 u3 u8 u14 u15 u16 u17 u18 u19 u20 u21 u22 u23 u24 u25 u26 u27 u28 u29 u30 u31 u32 u33 u34 u35 u36 u37 u38 u39 u40 u41 u42 u43 u44 u45 u46 u47 u48 u49 u50 u51 u52 u53 u54 u55 u56 u57 u58 u59 u60 u61 u62 u63 u64 : Value),
  a' = { tmps := (.slice (some ⟨b, off, none⟩) l.length cap :: .pointer (some ⟨w.heap.size, 0, none⟩) :: u2 :: u3 :: .pointer (some ⟨w.heap.size + 1, 0, none⟩) :: .pointer (some ⟨w.heap.size + 2, 0, none⟩) :: .pointer (some ⟨w.heap.size + 3, 0, none⟩) :: .pointer (some ⟨w.heap.size + 4, 0, none⟩) :: u8 :: .pointer (some ⟨w.heap.size + 5, 0, none⟩) :: .pointer (some ⟨w.heap.size + 6, 0, none⟩) :: .pointer (some ⟨w.heap.size + 7, 0, none⟩) :: sK w.heap.size :: sL w.heap.size :: u14 :: u15 :: u16 :: u17 :: u18 :: u19 :: u20 :: u21 :: u22 :: u23 :: u24 :: u25 :: u26 :: u27 :: u28 :: u29 :: u30 :: u31 :: u32 :: u33 :: u34 :: u35 :: u36 :: u37 :: u38 :: u39 :: u40 :: u41 :: u42 :: u43 :: u44 :: u45 :: u46 :: u47 :: u48 :: u49 :: u50 :: u51 :: u52 :: u53 :: u54 :: u55 :: u56 :: u57 :: u58 :: u59 :: u60 :: u61 :: u62 :: u63 :: u64 :: []).toArray, defers := [] } ∧ pInv l k ls n fl ws o fr was ∧
  SIn l b off cap w.heap.size w wr ov rv fr k n (k - fl + 1) was rb vs ls ws
def sμ (l : List UInt8) (w : World) (_ : Act) (wr : World) : Nat := l.length - (match wr.cell? ⟨w.heap.size + 5, 0, none⟩ with | some (.int _ q) => q.toNat | _ => 0)

set_option maxRecDepth 100000 in
set_option maxHeartbeats 3200000 in
theorem pSplit (l : List UInt8) (b off cap : Nat) (hl : l.length ≤ 900000) (hcap : l.length ≤ cap) (w : World)
    (hc : ∀ i, i < l.length → w.cell? ⟨b, off + i, none⟩ = some (.int .u8 ((l.getD i 0).toNat : Int))) :
    Calls Tryz.prog 33 #[.slice (some ⟨b, off, none⟩) l.length cap] w fun e w' => ∃ v, e = .returned (.tuple #[v, .int .u16 (spE l), .agg #[.int .i64 (spLn l), .int .i64 (spCol l)]]) ∧ LinesAt w' v (spLines l) ∧ Ext w w' := by
  have hC := Lib.hid hc
  clear hc
  go_enter Tryz.func33, Tryz.ntmps33
  go_wp2_with fail
  refine wp_scope_two 1 0 (sJ l b off cap w) _ (sμ l w) rfl rfl (fun _ _ h => h) ?pass ?first
  case first =>
    intro hR
    go_wp2
    go_step3
    rename_i K hK
    obtain ⟨hb, hx, hs⟩ := begin8 w _ (.slice (some ⟨b, off, none⟩) l.length cap) rfl
    exact hK _ _ (hR _ _ ⟨0, 1, 0, 0, 1, w.heap.size + 8, [], [], none, [], .slice none 0 0, .slice none 0 0, _, _, _, _, _, _, _, _, _, _, _, _, _, _, _, _, _, _, _, _, _, _, _, _, _, _, _, _, _, _, _, _, _, _, _, _, _, _, _, _, _, _, _, _, _, _, _, _, _, _, _, _, _, _, rfl, pInv_zero l, ⟨hb, LinesO.nil _ _, World.ownsRow_nil _ _ _ _, Nat.le_refl _, Nat.le_of_eq hs.symm, fun i hi => by simp at hi, hx, rfl⟩⟩)
  case pass =>
    rintro a' wr ⟨k, n, fl, fr, was, rb, ls, ws, o, vs, ov, rv, u2, u3, u8, u14, u15, u16, u17, u18, u19, u20, u21, u22, u23, u24, u25, u26, u27, u28, u29, u30, u31, u32, u33, u34, u35, u36, u37, u38, u39, u40, u41, u42, u43, u44, u45, u46, u47, u48, u49, u50, u51, u52, u53, u54, u55, u56, u57, u58, u59, u60, u61, u62, u63, u64, rfl, hI, hS⟩
    obtain ⟨b1, b2, b3, b4, b5, b6⟩ := pInv_bounds hI
    have hkl := hI.1
    have hKP := pKeep hS hkl hl hcap (by omega) rfl b1 hI.2.2.2.2 b6 b4 hC.out
    have hIH := Lib.hid hI
    have hSH := Lib.hid hS
    have c0 := hS.bx.c0
    have c5 := hS.bx.c5
    clear hI
    simp only [sK, sL]
    by_cases hlt : k < l.length
    · obtain ⟨p, hp⟩ : ∃ p : Nat, (l.getD k 0).toNat = p := ⟨_, rfl⟩
      have hp2 : p ≤ 255 := by rw [← hp]; exact Nat.le_of_lt_succ (UInt8.toNat_lt _)
      have hcell : wr.cell? ⟨b, off + k, none⟩ = some (.int .u8 (p : Int)) := by rw [← hp]; exact hS.ex.reads (hC.out k hlt)
      have hkp : Hid (wKind (l.getD k 0) = wk p) := Lib.hid (wKind_wk _ _ hp)
      have hkv : wk p = 0 ∨ wk p = 1 ∨ wk p = 2 ∨ wk p = 3 := by unfold wk; (repeat' split) <;> simp
      have h10 : Hid (wk p = 2 → l.getD k 0 = 10) := Lib.hid (fun h => by
        unfold wk at h
        split at h
        · rename_i h1; exact UInt8.toNat_inj.1 (by rw [hp, h1]; rfl)
        · revert h; (repeat' split) <;> simp)
      clear hp
      obtain ⟨q, hq⟩ : ∃ q, wk p = q := ⟨_, rfl⟩
      have hne : ((k : Int) == (l.length : Int)) = false := beq_eq_false_iff_ne.2 (by omega)
      have hPK := pKind p hp2
      rw [hq] at hkp hkv hPK h10
      clear hq
      have hc5 := c5
      have hAdd := fun W => run_complex_sum (P := Tryz.prog) W .add (Or.inl rfl) 108 .f64 _ _ _ _ _ _ (c_add (a := n) (b := k - fl + 1) (by omega) (by omega))
      have hE : Hid (∀ a0 rb' ls' ws' vs' ov' rv' fr' was' o' wx, pInv l (k + 1) ls' n fl ws' o' fr' was' → SIn l b off cap w.heap.size w wx ov' rv' fr' (k + 1) n (k - fl + 1 + 1) was' rb' vs' ls' ws' → ∀ ax, (∃ (u2 u3 u8 u14 u15 u16 u17 u18 u19 u20 u21 u22 u23 u24 u25 u26 u27 u28 u29 u30 u31 u32 u33 u34 u35 u36 u37 u38 u39 u40 u41 u42 u43 u44 u45 u46 u47 u48 u49 u50 u51 u52 u53 u54 u55 u56 u57 u58 u59 u60 u61 u62 u63 u64 : Value), ax = { tmps := (.slice (some ⟨b, off, none⟩) l.length cap :: .pointer (some ⟨w.heap.size, 0, none⟩) :: u2 :: u3 :: .pointer (some ⟨w.heap.size + 1, 0, none⟩) :: .pointer (some ⟨w.heap.size + 2, 0, none⟩) :: .pointer (some ⟨w.heap.size + 3, 0, none⟩) :: .pointer (some ⟨w.heap.size + 4, 0, none⟩) :: u8 :: .pointer (some ⟨w.heap.size + 5, 0, none⟩) :: .pointer (some ⟨w.heap.size + 6, 0, none⟩) :: .pointer (some ⟨w.heap.size + 7, 0, none⟩) :: sK w.heap.size :: sL w.heap.size :: u14 :: u15 :: u16 :: u17 :: u18 :: u19 :: u20 :: u21 :: u22 :: u23 :: u24 :: u25 :: u26 :: u27 :: u28 :: u29 :: u30 :: u31 :: u32 :: u33 :: u34 :: u35 :: u36 :: u37 :: u38 :: u39 :: u40 :: u41 :: u42 :: u43 :: u44 :: u45 :: u46 :: u47 :: u48 :: u49 :: u50 :: u51 :: u52 :: u53 :: u54 :: u55 :: u56 :: u57 :: u58 :: u59 :: u60 :: u61 :: u62 :: u63 :: u64 :: []).toArray, defers := [] }) → sJ l b off cap w ax wx ∧ sμ l w ax wx < sμ l w a0 wr) := Lib.hid (by
        intro a0 rb' ls' ws' vs' ov' rv' fr' was' o' wx hp hs ax ⟨u2, u3, u8, u14, u15, u16, u17, u18, u19, u20, u21, u22, u23, u24, u25, u26, u27, u28, u29, u30, u31, u32, u33, u34, u35, u36, u37, u38, u39, u40, u41, u42, u43, u44, u45, u46, u47, u48, u49, u50, u51, u52, u53, u54, u55, u56, u57, u58, u59, u60, u61, u62, u63, u64, e⟩
        refine ⟨⟨k + 1, n, fl, fr', was', rb', ls', ws', o', vs', ov', rv', _, _, _, _, _, _, _, _, _, _, _, _, _, _, _, _, _, _, _, _, _, _, _, _, _, _, _, _, _, _, _, _, _, _, _, _, _, _, _, _, _, _, _, _, _, _, _, _, _, _, _, _, _, _, e, hp, by rw [show k + 1 - fl + 1 = k - fl + 1 + 1 by omega]; exact hs⟩, ?_⟩
        unfold sμ; rw [hs.bx.c5, hc5]; simp; omega)
      go_wp2_with fail
      refine (hPK _).mono ?_
      rintro e w1 ⟨rfl, rfl⟩
      clear hPK
      rcases hkv with rfl | rfl | rfl | rfl
      · have c7 := hS.bx.c7
        have c4 := hS.bx.c4
        have c6 := hS.bx.c6
        have f4 := hS.bx.f4
        have f5 := hS.bx.f5
        have f6 := hS.bx.f6
        have f7 := hS.bx.f7
        obtain ⟨o', hN0⟩ := pInv_vis hIH.out hlt hkp.out
        have hN := Lib.hid hN0
        clear hN0
        by_cases h0 : was = 0
        · subst h0
          rw [if_pos rfl] at hN
          have hS2 : Hid (∀ v : Int, v = ((k + 1 : Nat) : Int) → SIn l b off cap w.heap.size w (((wr.setCell ⟨w.heap.size + 6, 0, none⟩ (.complex .f64 (Fl n) (Fl (k - fl + 1 + 1)))).setCell ⟨w.heap.size + 7, 0, none⟩ (.int .i64 (0 : Nat))).setCell ⟨w.heap.size + 5, 0, none⟩ (.int .i64 v)) ov rv fr (k + 1) n (k - fl + 1 + 1) 0 rb vs ls ws) := Lib.hid (fun v hv => by
            have s1 := hSH.out.set (j := 6) (by omega) (hSH.out.bx.set6 n (k - fl + 1 + 1))
            have s2 := s1.set (j := 7) (by omega) (s1.bx.set7 0)
            have s3 := s2.set (j := 5) (by omega) (s2.bx.set5 hv)
            exact s3)
          clear hS hKP hSH hIH
          generalize Fl n = A at *
          generalize Fl (k - fl + 1) = B at *
          generalize Fl (k - fl + 1 + 1) = C at *
          go_wp2
          refine wp_goto (.inl ⟨rfl, hE.out _ _ _ _ _ _ _ _ _ _ _ hN.out (hS2.out ((k : Int) + 1) (by omega)) _ ⟨_, _, _, _, _, _, _, _, _, _, _, _, _, _, _, _, _, _, _, _, _, _, _, _, _, _, _, _, _, _, _, _, _, _, _, _, _, _, _, _, _, _, _, _, _, _, _, _, _, _, _, _, _, _, rfl⟩⟩)
        · have h0' : ((was : Int) != 0) = true := by simp; omega
          rw [if_neg h0] at hN
          have hS2 : Hid (∀ v : Int, v = ((k + 1 : Nat) : Int) → SIn l b off cap w.heap.size w ((((wr.setCell ⟨w.heap.size + 4, 0, none⟩ (.int .i64 k)).setCell ⟨w.heap.size + 6, 0, none⟩ (.complex .f64 (Fl n) (Fl (k - fl + 1 + 1)))).setCell ⟨w.heap.size + 7, 0, none⟩ (.int .i64 (0 : Nat))).setCell ⟨w.heap.size + 5, 0, none⟩ (.int .i64 v)) ov rv k (k + 1) n (k - fl + 1 + 1) 0 rb vs ls ws) := Lib.hid (fun v hv => by
            have s1 := hSH.out.set (j := 4) (by omega) (hSH.out.bx.set4 (v := (k : Int)) rfl)
            have s2 := s1.set (j := 6) (by omega) (s1.bx.set6 n (k - fl + 1 + 1))
            have s3 := s2.set (j := 7) (by omega) (s2.bx.set7 0)
            have s4 := s3.set (j := 5) (by omega) (s3.bx.set5 hv)
            exact s4)
          clear hS hKP hSH hIH
          generalize Fl n = A at *
          generalize Fl (k - fl + 1) = B at *
          generalize Fl (k - fl + 1 + 1) = C at *
          go_wp2
          refine wp_goto (.inl ⟨rfl, hE.out _ _ _ _ _ _ _ _ _ _ _ hN.out (hS2.out ((k : Int) + 1) (by omega)) _ ⟨_, _, _, _, _, _, _, _, _, _, _, _, _, _, _, _, _, _, _, _, _, _, _, _, _, _, _, _, _, _, _, _, _, _, _, _, _, _, _, _, _, _, _, _, _, _, _, _, _, _, _, _, _, _, rfl⟩⟩)
      · have hN := Lib.hid (pInv_blank hIH.out hlt hkp.out)
        generalize flushW (l.drop fl) n (k - fl) (ws, o) = X at *
        clear hIH hS hSH c0 c5
        go_wp2_with fail
        refine hKP.mono ?_
        rintro e w1 ⟨rfl, rv1, hS1⟩
        clear hKP
        have c5 := hS1.bx.c5
        have c6 := hS1.bx.c6
        have f5 := hS1.bx.f5
        have f6 := hS1.bx.f6
        have f7 := hS1.bx.f7
        have c7 := hS1.bx.c7
        have hS2 : Hid (∀ v : Int, v = ((k + 1 : Nat) : Int) → SIn l b off cap w.heap.size w (((w1.setCell ⟨w.heap.size + 6, 0, none⟩ (.complex .f64 (Fl n) (Fl (k - fl + 1 + 1)))).setCell ⟨w.heap.size + 7, 0, none⟩ (.int .i64 (1 : Nat))).setCell ⟨w.heap.size + 5, 0, none⟩ (.int .i64 v)) ov rv1 fr (k + 1) n (k - fl + 1 + 1) 1 rb vs ls X) := Lib.hid (fun v hv => by
          have s1 := hS1.set (j := 6) (by omega) (hS1.bx.set6 n (k - fl + 1 + 1))
          have s2 := s1.set (j := 7) (by omega) (s1.bx.set7 1)
          have s3 := s2.set (j := 5) (by omega) (s2.bx.set5 hv)
          exact s3)
        clear hS1
        generalize Fl n = A at *
        generalize Fl (k - fl + 1) = B at *
        generalize Fl (k - fl + 1 + 1) = C at *
        go_wp2
        refine wp_goto (.inl ⟨rfl, hE.out _ _ _ _ _ _ _ _ _ _ _ hN.out (hS2.out ((k : Int) + 1) (by omega)) _ ⟨_, _, _, _, _, _, _, _, _, _, _, _, _, _, _, _, _, _, _, _, _, _, _, _, _, _, _, _, _, _, _, _, _, _, _, _, _, _, _, _, _, _, _, _, _, _, _, _, _, _, _, _, _, _, rfl⟩⟩)
      · have hN := Lib.hid (pInv_end hIH.out hlt (h10.out rfl))
        generalize flushW (l.drop fl) n (k - fl) (ws, o) = X at *
        clear hIH hS hSH c0 c5
        go_wp2_with fail
        refine hKP.mono ?_
        rintro e w1 ⟨rfl, rv1, hS1⟩
        clear hKP
        have c5 := hS1.bx.c5
        have c6 := hS1.bx.c6
        have f5 := hS1.bx.f5
        have f6 := hS1.bx.f6
        have f7 := hS1.bx.f7
        have c7 := hS1.bx.c7
        have hS2 := hS1.set (j := 6) (by omega) (hS1.bx.set6 n (k - fl + 1 + 1))
        have hLY := pLayS hS2 b5 (by omega)
        have hE2 : Hid (∀ a0 ls' ws' vs' ov' rv' rb' wx, pInv l (k + 1) ls' (n + 1) (k + 1) ws' none fr 2 → SIn l b off cap w.heap.size w wx ov' rv' fr (k + 1) (n + 1) 1 2 rb' vs' ls' ws' → ∀ ax, (∃ (u2 u3 u8 u14 u15 u16 u17 u18 u19 u20 u21 u22 u23 u24 u25 u26 u27 u28 u29 u30 u31 u32 u33 u34 u35 u36 u37 u38 u39 u40 u41 u42 u43 u44 u45 u46 u47 u48 u49 u50 u51 u52 u53 u54 u55 u56 u57 u58 u59 u60 u61 u62 u63 u64 : Value), ax = { tmps := (.slice (some ⟨b, off, none⟩) l.length cap :: .pointer (some ⟨w.heap.size, 0, none⟩) :: u2 :: u3 :: .pointer (some ⟨w.heap.size + 1, 0, none⟩) :: .pointer (some ⟨w.heap.size + 2, 0, none⟩) :: .pointer (some ⟨w.heap.size + 3, 0, none⟩) :: .pointer (some ⟨w.heap.size + 4, 0, none⟩) :: u8 :: .pointer (some ⟨w.heap.size + 5, 0, none⟩) :: .pointer (some ⟨w.heap.size + 6, 0, none⟩) :: .pointer (some ⟨w.heap.size + 7, 0, none⟩) :: sK w.heap.size :: sL w.heap.size :: u14 :: u15 :: u16 :: u17 :: u18 :: u19 :: u20 :: u21 :: u22 :: u23 :: u24 :: u25 :: u26 :: u27 :: u28 :: u29 :: u30 :: u31 :: u32 :: u33 :: u34 :: u35 :: u36 :: u37 :: u38 :: u39 :: u40 :: u41 :: u42 :: u43 :: u44 :: u45 :: u46 :: u47 :: u48 :: u49 :: u50 :: u51 :: u52 :: u53 :: u54 :: u55 :: u56 :: u57 :: u58 :: u59 :: u60 :: u61 :: u62 :: u63 :: u64 :: []).toArray, defers := [] }) → sJ l b off cap w ax wx ∧ sμ l w ax wx < sμ l w a0 wr) := Lib.hid (by
          intro a0 ls' ws' vs' ov' rv' rb' wx hp hs ax ⟨u2, u3, u8, u14, u15, u16, u17, u18, u19, u20, u21, u22, u23, u24, u25, u26, u27, u28, u29, u30, u31, u32, u33, u34, u35, u36, u37, u38, u39, u40, u41, u42, u43, u44, u45, u46, u47, u48, u49, u50, u51, u52, u53, u54, u55, u56, u57, u58, u59, u60, u61, u62, u63, u64, e⟩
          refine ⟨⟨k + 1, n + 1, k + 1, fr, 2, rb', ls', ws', none, vs', ov', rv', _, _, _, _, _, _, _, _, _, _, _, _, _, _, _, _, _, _, _, _, _, _, _, _, _, _, _, _, _, _, _, _, _, _, _, _, _, _, _, _, _, _, _, _, _, _, _, _, _, _, _, _, _, _, e, hp, by rw [Nat.sub_self]; exact hs⟩, ?_⟩
          unfold sμ; rw [hs.bx.c5, hc5]; simp; omega)
        clear hS1 hS2 hE
        generalize Fl n = A at *
        generalize Fl (k - fl + 1) = B at *
        generalize Fl (k - fl + 1 + 1) = C at *
        go_wp2_with fail
        refine hLY.mono ?_
        rintro e w2 ⟨rfl, ov2, vs2, hS2⟩
        clear hLY
        have c5 := hS2.bx.c5
        have c6 := hS2.bx.c6
        have f5 := hS2.bx.f5
        have f6 := hS2.bx.f6
        have f7 := hS2.bx.f7
        have c7 := hS2.bx.c7
        have hS3 : Hid (∀ v : Int, v = ((k + 1 : Nat) : Int) → SIn l b off cap w.heap.size w (((w2.setCell ⟨w.heap.size + 6, 0, none⟩ (.complex .f64 (Fl (n + 1)) (Fl 1))).setCell ⟨w.heap.size + 7, 0, none⟩ (.int .i64 (2 : Nat))).setCell ⟨w.heap.size + 5, 0, none⟩ (.int .i64 v)) ov2 (.slice none 0 0) fr (k + 1) (n + 1) 1 2 w2.heap.size vs2 (ls ++ layW X) []) := Lib.hid (fun v hv => by
          have s1 := hS2.set (j := 6) (by omega) (hS2.bx.set6 (n + 1) 1)
          have s2 := s1.set (j := 7) (by omega) (s1.bx.set7 2)
          exact s2.set (j := 5) (by omega) (s2.bx.set5 hv))
        have hAdd2 := fun W => run_float_arith (P := Tryz.prog) W .add 120 .f64 _ _ _ (show floatBits .add .f64 (Fl n) 4607182418800017408 = some (Fl (n + 1)) by rw [← show Fl 1 = 4607182418800017408 by decide]; exact fl_add (by omega))
        rw [show Fl 1 = 4607182418800017408 by decide] at hS3
        clear hS2
        generalize Fl (n + 1) = D at *
        generalize Fl n = A' at *
        go_wp2
        refine wp_goto (.inl ⟨rfl, hE2.out _ _ _ _ _ _ _ _ hN.out (hS3.out ((k : Int) + 1) (by omega)) _ ⟨_, _, _, _, _, _, _, _, _, _, _, _, _, _, _, _, _, _, _, _, _, _, _, _, _, _, _, _, _, _, _, _, _, _, _, _, _, _, _, _, _, _, _, _, _, _, _, _, _, _, _, _, _, _, rfl⟩⟩)
      · have hN := Lib.hid (pInv_bad hIH.out hlt hkp.out)
        have hP := pPlace n (k - fl + 1) (by omega) (by omega)
        have c6 := hS.bx.c6
        clear hKP hAdd hE
        generalize Fl n = A at *
        generalize Fl (k - fl + 1) = B at *
        go_wp2_with fail
        refine (hP _).mono ?_
        rintro e w1 ⟨rfl, hx1⟩
        have c1 := hx1.reads hS.bx.c1
        have d1 := hx1.reads hS.bx.d1
        have f1 := hx1.free hS.bx.c1 hS.bx.f1
        have e1 := hx1.free hS.bx.d1 hS.bx.e1
        have hxw := hS.ex.trans hx1
        clear hP hS hSH
        go_wp2
        simp only [jump2]
        refine bodyPost_ret (v := .tuple #[.slice none 0 0, .int .u16 20, .agg #[.int .i64 n, .int .i64 ((k - fl + 1 : Nat) : Int)]]) (by simp [results, Tryz.results33, go_sem, c1, d1]) rfl ?_
        obtain ⟨e1, e2, e3, e4⟩ := hN.out
        rw [e1, e2, e3, e4]
        refine ⟨_, rfl, LinesAt.nil _, ?_⟩
        exact ((But.refl (fun x => x = w.heap.size + 1) w1).setCell rfl _ |>.setCell rfl _).ext hxw (by rintro x rfl; omega)
    · obtain rfl : k = l.length := by omega
      have hN := Lib.hid (pInv_last hIH.out)
      generalize flushW (l.drop fl) n (l.length - fl) (ws, o) = X at *
      clear hIH hS hSH
      go_wp2_with fail
      refine wp_goto (.inr ⟨rfl, ?_⟩)
      go_wp2_with fail
      refine hKP.mono ?_
      rintro e w1 ⟨rfl, rv1, hS1⟩
      clear hKP
      have hLY := pLayS hS1 b5 (by omega)
      clear hS1
      go_wp2_with fail
      refine hLY.mono ?_
      rintro e w2 ⟨rfl, ov2, vs2, hS2⟩
      have c2 := hS2.bx.c2
      have c1 := hS2.bx.c1
      have d1 := hS2.bx.d1
      have f1 := hS2.bx.f1
      have e1 := hS2.bx.e1
      have hLL := Lib.hid hS2.lo
      have hxw := hS2.ex
      clear hLY hS2
      go_wp2
      simp only [Exit.noGoto]
      refine bodyPost_ret (v := .tuple #[ov2, .int .u16 0, .agg #[.int .i64 0, .int .i64 0]]) (by simp [results, Tryz.results33, go_sem, c1, d1]) rfl ?_
      obtain ⟨e1, e2, e3, e4⟩ := hN.out
      rw [e1, e2, e3, e4]
      have hB : But (fun x => x = w.heap.size + 1) w2 ((w2.setCell ⟨w.heap.size + 1, 0, none⟩ (.int .i64 0)).setCell ⟨w.heap.size + 1, 1, none⟩ (.int .i64 0)) := ((But.refl (fun x => x = w.heap.size + 1) w2).setCell rfl _).setCell rfl _
      exact ⟨_, rfl, (hLL.out.but hB (by rintro x rfl; omega)).at, hB.ext hxw (by rintro x rfl; omega)⟩

end Go.Proofs.YtdgcgpapcbjfhaaGreatDoor

/- Words of an empty text, by the program; of any. -/
namespace Go.Proofs.YtdgcgpapcbjfhaaGreatDoor
open Go.RowKit

@[local go_sem] theorem run_store_complex' {P : Program} (w : World) (a : Addr) (m : Mode) (k : FloatKind) (x y : Nat) : (store a (.complex k x y) m).run P w = stored P w a (.complex k x y) m := run_store P w a _ m rfl

set_option maxRecDepth 100000 in
set_option maxHeartbeats 3200000 in
theorem pSplit0 (a : Option Addr) (cap : Nat) (w : World) :
    Calls Tryz.prog 33 #[.slice a 0 cap] w fun e w' => ∃ v, e = .returned (.tuple #[v, .int .u16 0, .agg #[.int .i64 0, .int .i64 0]]) ∧ LinesAt w' v [] ∧ Ext w w' := by
  go_enter Tryz.func33, Tryz.ntmps33
  go_wp2_with fail
  refine wp_scope_1t 0 rfl ?_
  go_wp2_with fail
  go_step3
  rename_i K hK
  refine hK _ _ ?_
  clear hK
  go_wp2_with fail
  refine wp_goto ⟨rfl, ?_⟩
  obtain ⟨W, eW⟩ : ∃ W, ((((((((w.alloc (.cells #[.slice a 0 cap] 22)).alloc (.cells #[.int .i64 0, .int .i64 0] 57)).alloc (.cells #[.slice none 0 0] 85)).alloc (.cells #[.slice none 0 0] 95)).alloc (.cells #[.int .i64 0] 3)).alloc (.cells #[.int .i64 0] 3)).alloc (.cells #[.complex .f64 4607182418800017408 4607182418800017408] 108)).alloc (.cells #[.int .i64 1] 3)) = W := ⟨_, rfl⟩
  obtain ⟨hb, hx, hs⟩ := begin8 w W (.slice a 0 cap) eW
  rw [eW]
  clear eW
  go_wp2_with fail
  refine (pKeepNo _ _ _ _ _ _ 1 (by decide) W hb.c7).mono ?_
  rintro e w1 ⟨rfl, rfl⟩
  go_wp2_with fail
  refine (pLay (w.heap.size + 3) (w.heap.size + 2) (w.heap.size + 8) (w.heap.size + 8) (.slice none 0 0) (.slice none 0 0) [] [] [] W hb.c3 hb.f3 hb.c2 hb.f2 (by omega) (LinesO.nil _ _) (World.ownsRow_nil _ _ _ _) (Nat.le_refl _) (by omega) (by omega) (by omega) (by intro x hx; simp at hx) (by simp)).mono ?_
  rintro e w2 ⟨rfl, c3, f3, f2, ⟨ov', vs', c2, lo⟩, hbut⟩
  have hS : ∀ x, (x = w.heap.size + 3 ∨ x = w.heap.size + 2 ∨ (Value.slice none 0 0).ownBlock = some x) → ¬ x = w.heap.size + 1 ∧ w.heap.size ≤ x := by
    rintro x (rfl | rfl | h)
    · omega
    · omega
    · simp [Value.ownBlock] at h
  have d0 := hbut.cell hb.c1 (fun h => (hS _ h).1 rfl)
  have d1 := hbut.cell hb.d1 (fun h => (hS _ h).1 rfl)
  have g0 := hbut.free hb.c1 (fun h => (hS _ h).1 rfl) hb.f1
  have g1 := hbut.free hb.d1 (fun h => (hS _ h).1 rfl) hb.e1
  have hx2 := hbut.ext hx (fun x h => (hS _ h).2)
  obtain ⟨oa, oc, rfl⟩ := own_slice lo.2.1
  clear hb hbut
  go_wp2
  simp only [Exit.noGoto]
  refine bodyPost_ret (v := .tuple #[.slice oa ([] ++ layW []).length oc, .int .u16 0, .agg #[.int .i64 0, .int .i64 0]]) (by simp [results, Tryz.results33, go_sem, d0, d1]) rfl ⟨_, rfl, ?_, ?_⟩
  · have hB : But (fun x => x = w.heap.size + 1) w2 ((w2.setCell ⟨w.heap.size + 1, 0, none⟩ (.int .i64 0)).setCell ⟨w.heap.size + 1, 1, none⟩ (.int .i64 0)) := ((But.refl (fun x => x = w.heap.size + 1) w2).setCell rfl _).setCell rfl _
    exact (lo.but hB (by rintro x rfl; omega)).at
  · exact ((But.refl (fun x => x = w.heap.size + 1) w2).setCell rfl _ |>.setCell rfl _).ext hx2 (by rintro x rfl; omega)

theorem pSplitA (a : Option Addr) (cap : Nat) (l : List UInt8) (hl : l.length ≤ 900000) (hcap : l.length ≤ cap) (w : World) (hb : IsBytes w a l) :
    Calls Tryz.prog 33 #[.slice a l.length cap] w fun e w' => ∃ v, e = .returned (.tuple #[v, .int .u16 (spE l), .agg #[.int .i64 (spLn l), .int .i64 (spCol l)]]) ∧ LinesAt w' v (spLines l) ∧ Ext w w' := by
  rcases hb with rfl | ⟨b, off, rfl, hc⟩
  · refine (pSplit0 a cap w).mono ?_
    rintro e w' ⟨v, rfl, hv, hx⟩
    obtain ⟨h1, h2, h3, h4⟩ := sp_nil
    rw [h1, h2, h3, h4]
    exact ⟨_, rfl, hv, hx⟩
  · exact pSplit l b off cap hl hcap w hc

end Go.Proofs.YtdgcgpapcbjfhaaGreatDoor
