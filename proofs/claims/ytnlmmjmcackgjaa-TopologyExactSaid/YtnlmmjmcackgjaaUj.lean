/-
  A text of the proofs of this seat: lemmas that the statements' proofs use; it states nothing of the program by itself beyond the contracts that its theorems bear. Conditions: those that stand in each theorem. Its short name: Uj.
-/
import Derived.Test.YtnlmmjmcackgjaaUh
import Derived.Test.YtnlmmjmcackgjaaUi
set_option linter.unusedVariables false
set_option linter.unusedSimpArgs false
namespace Go.Proofs.Ytnlmmjmcackgjaa
open Go.Sx Go.Np Go.Tp
set_option maxRecDepth 4000
set_option maxHeartbeats 2000000
--APPX eds_len, nts_len, ivs_len
/-! the document's cycle -/
def optV : Option (List Nat) → SV
  | none => .nil
  | some c => .psl 1 (nts c)
theorem imp_optV {own : List Chunk} {ρ : Nat → Nat} {o : Option (List Nat)} : Imp (nrm own (optV o)) (ren ρ (optV o)) := by
  cases o <;> exact Imp.refl _
theorem aP_Uj {A B K : Prop} (k : K) (a : A := by (simp only [zA, zT, zD, zC, zN, ints_len, zR, eds_len, nts_len, ivs_len]; omega)) (b : B := by (simp only [zA, zT, zD, zC, zN, ints_len, zR, eds_len, nts_len, ivs_len]; omega)) : (A ∧ B) ∧ K := ⟨⟨a, b⟩, k⟩
theorem rCycle_ok (n : Nt) (hn : NL n) (h : chkN n = 0) : Ctr Try.prog 29 [ntv n] [] (fun r o => o = [] ∧ r = optV (cyc (adj n) n.ln.length)) := by
  refine Ctr.imp ?_
  refine fn_intro (E := env 0) tys_ok rfl rfl rfl Try.func29 (by kernel_rfl) rfl (by kernel_rfl) ?_
  have hL := (chkN_zero h).1
  have hE := adj_chk h
  have cE := rEdges_ok n hn h
  have hll := lnl n.ln
  generalize n.ln.length = L at *
  generalize adj n = E at *
  have hel := edg_len (E := E) (m := L) (a := L)
  have hmm : L * L ≤ 8 * 8 := Nat.mul_le_mul (by omega) (by omega)
  have hbd : ∀ e ∈ edg E L L, e.1 < L ∧ e.2 < L := fun e he => let h := mem_edg.1 he; ⟨h.1, h.2.1⟩
  have hmem : ∀ x y, (x, y) ∈ edg E L L ↔ E x y = true := fun x y => by
    rw [mem_edg]
    exact ⟨fun h => h.2.2, fun h => ⟨(hE.b _ _ h).1, (hE.b _ _ h).2, h⟩⟩
  have hord : (edg E L L).Pairwise ltE := edg_ord
  generalize edg E L L = es at *
  have hle := eds_len es
  (repeat' (conv => whnf); first | refine AsgOb.nil ?_ | (refine aC (fun _ => ?_) (fun _ => ?_) <;> try (exfalso; omega)) | refine aS ?_ | refine aG ?_ | refine aD ?_ | refine aH ?_ | refine aP_Uj ?_ | refine aI ?_ | refine aJ ?_ | refine aW (.qs [0, 1, 2, 3, 4, 5, 6, 7, 8, 9] (.l 10 [] (.qs [11] .nil) .no)) ?_ | refine aW (.qs [0, 1, 2, 3, 4, 5, 6, 7, 8, 9, 10, 11, 12, 13, 14, 15, 16, 17, 18, 19, 20, 21, 22, 23, 24, 25, 26, 28, 29, 30, 31] (.l 27 [] (.qs [32, 33] .nil) .no)) ?_ | (refine aK [] cE ?_) | fail); all_goals try (conv => whnf)
  refine LoopOb.mk (Y := Nat × Option (List Nat)) (st := fun y => ⟨[(5, i64 y.1), (4, optV y.2), (3, .psl 2 (eds es)), (1, .ptr 0 0)], [.box [.psl 1 (strs n.nm), .psl 5 (lns n.ln), .psl 8 (fls n.fl)]]⟩)
    (inv := fun y => y.1 ≤ L ∧ Bst E L y.1 y.2) (fun y => L - y.1) (0, none) [0] ⟨by simp, Bst.zero E L⟩ (by (exact aL)) ?_
  rintro ⟨a, o⟩ ⟨haL, hB⟩
  dsimp only at haL hB ⊢
  (repeat' (conv => whnf); first | refine aS ?_ | refine aG ?_ | refine aD ?_ | refine aH ?_ | refine aP_Uj ?_ | refine aI ?_ | refine aJ ?_ | refine aW (.qs [0, 1, 2, 3, 4, 5, 6, 7, 8, 9] (.l 10 [] (.qs [11] .nil) .no)) ?_ | refine aW (.qs [0, 1, 2, 3, 4, 5, 6, 7, 8, 9, 10, 11, 12, 13, 14, 15, 16, 17, 18, 19, 20, 21, 22, 23, 24, 25, 26, 28, 29, 30, 31] (.l 27 [] (.qs [32, 33] .nil) .no)) ?_ | fail); all_goals try (conv => whnf)
  have hex : (¬a < L ∨ es.length = 0) → Bst E L L o := fun h => by
    rcases h with h | h
    · have : a = L := by omega
      rw [← this]; rw [this] at hB; exact this ▸ hB
    · exact hB.none haL (fun b L' hL' => by
        obtain ⟨x, y, hxy⟩ := hL'.edge
        have := (hmem _ _).2 hxy
        rw [List.eq_nil_of_length_eq_zero h] at this
        cases this)
  refine CondOb.mk (fun hlt => ?_) (fun hlt => ?_)
  · (repeat' (conv => whnf); first | refine aS ?_ | refine aG ?_ | refine aD ?_ | refine aH ?_ | refine aP_Uj ?_ | refine aI ?_ | refine aJ ?_ | refine aW (.qs [0, 1, 2, 3, 4, 5, 6, 7, 8, 9] (.l 10 [] (.qs [11] .nil) .no)) ?_ | refine aW (.qs [0, 1, 2, 3, 4, 5, 6, 7, 8, 9, 10, 11, 12, 13, 14, 15, 16, 17, 18, 19, 20, 21, 22, 23, 24, 25, 26, 28, 29, 30, 31] (.l 27 [] (.qs [32, 33] .nil) .no)) ?_ | fail); all_goals try (conv => whnf)
    refine CondOb.mk (fun hlt2 => ?_) (fun hlt2 => ?_)
    · have haL2 : a < L := by omega
      have hlx := mem_subl hmem (a := a)
      have hox := subl_ord hord a
      have hsl := subl_len es a
      (repeat' (conv => whnf); first | refine aC (fun _ => ?_) (fun _ => ?_) | refine aS ?_ | refine aG ?_ | refine aD ?_ | refine aH ?_ | refine aP_Uj ?_ | refine aI ?_ | refine aJ ?_ | refine aW (.qs [0, 1, 2, 3, 4, 5, 6, 7, 8, 9] (.l 10 [] (.qs [11] .nil) .no)) ?_ | refine aW (.qs [0, 1, 2, 3, 4, 5, 6, 7, 8, 9, 10, 11, 12, 13, 14, 15, 16, 17, 18, 19, 20, 21, 22, 23, 24, 25, 26, 28, 29, 30, 31] (.l 27 [] (.qs [32, 33] .nil) .no)) ?_ | fail); all_goals try (conv => whnf)
      refine LoopOb.mk (Y := Nat) (st := fun i => ⟨[(7, i64 i), (6, .vec 1), (5, i64 a), (4, optV o), (3, .psl 2 (eds es)), (1, .ptr 0 0)], [.box [.psl 1 (strs n.nm), .psl 5 (lns n.ln), .psl 8 (fls n.fl)], .vec 2 (eds (subl (es.take i) a))]⟩)
        (inv := fun i => i ≤ es.length) (fun i => es.length - i) 0 [0, 1] (by omega) (by (refine Le.mk (by first | (cases o <;> kernel_rfl) | kernel_rfl) ?_ ?_ <;> repeat' (first | exact True.intro | refine And.intro ?_ ?_ | exact Imp.refl _ | exact imp_optV | exact Imp.num (by omega) | exact rfl))) ?_
      intro i hi
      have hsi := subl_len (es.take i) a
      rw [List.length_take] at hsi
      have hst := fun h => subl_take (l := es) (a := a) (i := i) h
      have hfin : i = es.length → subl (es.take i) a = subl es a := fun e => by rw [e, List.take_length]
      generalize subl (es.take i) a = s at *
      have hse := eds_len s
      (repeat' (conv => whnf); first | refine aS ?_ | refine aG ?_ | refine aD ?_ | refine aH ?_ | refine aP_Uj ?_ | refine aI ?_ | refine aJ ?_ | refine aW (.qs [0, 1, 2, 3, 4, 5, 6, 7, 8, 9] (.l 10 [] (.qs [11] .nil) .no)) ?_ | refine aW (.qs [0, 1, 2, 3, 4, 5, 6, 7, 8, 9, 10, 11, 12, 13, 14, 15, 16, 17, 18, 19, 20, 21, 22, 23, 24, 25, 26, 28, 29, 30, 31] (.l 27 [] (.qs [32, 33] .nil) .no)) ?_ | fail); all_goals try (conv => whnf)
      refine CondOb.mk (fun hlt3 => ?_) (fun hlt3 => ?_)
      · have hil : i < es.length := by omega
        have hg := eds_get hil
        have hst := hst hil
        generalize es.getD i (0, 0) = e at *
        obtain ⟨x, y⟩ := e
        dsimp only at hg hst
        have e0 := eds_app s [(x, y)]
        (repeat' (conv => whnf); first | refine ⟨0, rfl, by omega, ?_⟩ | refine ⟨1, rfl, by omega, ?_⟩ | refine ⟨i, _, rfl, hg, ?_⟩ | refine aC (fun _ => ?_) (fun _ => ?_) | refine aS ?_ | refine aG ?_ | refine aD ?_ | refine aH ?_ | refine aP_Uj ?_ | refine aI ?_ | refine aJ ?_ | refine aW (.qs [0, 1, 2, 3, 4, 5, 6, 7, 8, 9] (.l 10 [] (.qs [11] .nil) .no)) ?_ | refine aW (.qs [0, 1, 2, 3, 4, 5, 6, 7, 8, 9, 10, 11, 12, 13, 14, 15, 16, 17, 18, 19, 20, 21, 22, 23, 24, 25, 26, 28, 29, 30, 31] (.l 27 [] (.qs [32, 33] .nil) .no)) ?_ | fail); all_goals try (conv => whnf)
        · rw [if_pos ⟨by omega, by omega⟩] at hst
          exact ⟨i + 1, [0, 3], by omega, by omega, by rw [hst, e0]; (refine Le.mk (by first | (cases o <;> kernel_rfl) | kernel_rfl) ?_ ?_ <;> repeat' (first | exact True.intro | refine And.intro ?_ ?_ | exact Imp.refl _ | exact imp_optV | exact Imp.num (by omega) | exact rfl))⟩
        · rw [if_neg (fun h => by omega)] at hst
          exact ⟨i + 1, [0, 1], by omega, by omega, by rw [hst]; (refine Le.mk (by first | (cases o <;> kernel_rfl) | kernel_rfl) ?_ ?_ <;> repeat' (first | exact True.intro | refine And.intro ?_ ?_ | exact Imp.refl _ | exact imp_optV | exact Imp.num (by omega) | exact rfl))⟩
        · rw [if_neg (fun h => by omega)] at hst
          exact ⟨i + 1, [0, 1], by omega, by omega, by rw [hst]; (refine Le.mk (by first | (cases o <;> kernel_rfl) | kernel_rfl) ?_ ?_ <;> repeat' (first | exact True.intro | refine And.intro ?_ ?_ | exact Imp.refl _ | exact imp_optV | exact Imp.num (by omega) | exact rfl))⟩
      rw [hfin (by omega)]
      clear hfin hse hsi hst
      generalize subl es a = w at *
      have hwe := eds_len w
      have hwb : ∀ e ∈ w, e.1 < L ∧ e.2 < L := fun e he => hE.b _ _ (sub_true.1 ((hlx e.1 e.2).1 he)).1
      (repeat' (conv => whnf); first | refine aC (fun _ => ?_) (fun _ => ?_) | refine aS ?_ | refine aG ?_ | refine aD ?_ | refine aH ?_ | refine aP_Uj ?_ | refine aI ?_ | refine aJ ?_ | refine aW (.qs [0, 1, 2, 3, 4, 5, 6, 7, 8, 9] (.l 10 [] (.qs [11] .nil) .no)) ?_ | refine aW (.qs [0, 1, 2, 3, 4, 5, 6, 7, 8, 9, 10, 11, 12, 13, 14, 15, 16, 17, 18, 19, 20, 21, 22, 23, 24, 25, 26, 28, 29, 30, 31] (.l 27 [] (.qs [32, 33] .nil) .no)) ?_ | fail); all_goals try (conv => whnf)
      refine LoopOb.mk (Y := Nat × Int) (st := fun y => ⟨[(9, i64 y.1), (8, i64 y.2), (6, .vec 1), (5, i64 a), (4, optV o), (3, .psl 2 (eds es)), (1, .ptr 0 0)], [.box [.psl 1 (strs n.nm), .psl 5 (lns n.ln), .psl 8 (fls n.fl)], .vec 2 (eds w)]⟩)
        (inv := fun y => y.1 ≤ w.length ∧ (-1 ≤ y.2 ∧ y.2 ≤ L) ∧ LsI E a (w.take y.1) y.2) (fun y => w.length - y.1) (0, -1) [0, 1] ⟨by simp, ⟨by simp, by simp⟩, LsI.nil E a⟩ (by (refine Le.mk (by first | (cases o <;> kernel_rfl) | kernel_rfl) ?_ ?_ <;> repeat' (first | exact True.intro | refine And.intro ?_ ?_ | exact Imp.refl _ | exact imp_optV | exact Imp.num (by omega) | exact rfl))) ?_
      rintro ⟨i, z⟩ ⟨hi, hzb, hI⟩
      dsimp only at hi hzb hI ⊢
      (repeat' (conv => whnf); first | refine aS ?_ | refine aG ?_ | refine aD ?_ | refine aH ?_ | refine aP_Uj ?_ | refine aI ?_ | refine aJ ?_ | refine aW (.qs [0, 1, 2, 3, 4, 5, 6, 7, 8, 9] (.l 10 [] (.qs [11] .nil) .no)) ?_ | refine aW (.qs [0, 1, 2, 3, 4, 5, 6, 7, 8, 9, 10, 11, 12, 13, 14, 15, 16, 17, 18, 19, 20, 21, 22, 23, 24, 25, 26, 28, 29, 30, 31] (.l 27 [] (.qs [32, 33] .nil) .no)) ?_ | fail); all_goals try (conv => whnf)
      refine CondOb.mk (fun hlt3 => ?_) (fun hlt3 => ?_)
      · have hil : i < w.length := by omega
        have hg := eds_get hil
        have hxy := hwb _ (ed_memU hil)
        have hst : w.take (i + 1) = w.take i ++ [w.getD i (0, 0)] := by
          rw [List.take_add_one, List.getD_eq_getElem?_getD, List.getElem?_eq_getElem hil]; rfl
        generalize w.getD i (0, 0) = e at *
        obtain ⟨x, y⟩ := e
        dsimp only at hg hxy
        obtain ⟨hb1, hb2, hb3⟩ := bfs_all (sub_ok (a := a) hE) hlx hxy.2 haL2
        have hBk := rbackV_ok w L y a hwb (by omega) hxy.2 haL2 (by omega)
        generalize farD w y L a = d at *
        have hdb : d < L := by
          rcases hb3 with h | h
          · omega
          · have := ((hb1 d.toNat).1 (by omega)).lt (sub_ok (a := a) hE) hxy.2
            omega
        (repeat' (conv => whnf); first | (refine CallOb.mk [1] hBk rfl ⟨Imp.refl _, Imp.num (by rw [hll]), Imp.refl _, Imp.refl _, trivial⟩ rfl rfl ?_; rintro _ _ ⟨rfl, rfl⟩) | refine ⟨0, rfl, by omega, ?_⟩ | refine ⟨1, rfl, by omega, ?_⟩ | refine ⟨_, hg, ?_⟩ | refine ⟨i, rfl, by omega, ?_⟩ | refine aC (fun _ => ?_) (fun _ => ?_) | refine aS ?_ | refine aG ?_ | refine aD ?_ | refine aH ?_ | refine aP_Uj ?_ | refine aI ?_ | refine aJ ?_ | refine aW (.qs [0, 1, 2, 3, 4, 5, 6, 7, 8, 9] (.l 10 [] (.qs [11] .nil) .no)) ?_ | refine aW (.qs [0, 1, 2, 3, 4, 5, 6, 7, 8, 9, 10, 11, 12, 13, 14, 15, 16, 17, 18, 19, 20, 21, 22, 23, 24, 25, 26, 28, 29, 30, 31] (.l 27 [] (.qs [32, 33] .nil) .no)) ?_ | fail); all_goals try (conv => whnf)
        · obtain ⟨k, rfl⟩ : ∃ k : Nat, d = k := ⟨d.toNat, by omega⟩
          exact ⟨(i + 1, (k : Int) + 1), [0, 1], ⟨by dsimp only; omega, ⟨by dsimp only; omega, by dsimp only; omega⟩, by dsimp only; rw [hst]; exact hI.less (by dsimp only; omega) ((hb1 k).1 rfl) (.inl (by omega))⟩, by dsimp only; omega, by (refine Le.mk (by first | (cases o <;> kernel_rfl) | kernel_rfl) ?_ ?_ <;> repeat' (first | exact True.intro | refine And.intro ?_ ?_ | exact Imp.refl _ | exact imp_optV | exact Imp.num (by omega) | exact rfl))⟩
        · obtain ⟨k, rfl⟩ : ∃ k : Nat, d = k := ⟨d.toNat, by omega⟩
          exact ⟨(i + 1, (k : Int) + 1), [0, 1], ⟨by dsimp only; omega, ⟨by dsimp only; omega, by dsimp only; omega⟩, by dsimp only; rw [hst]; exact hI.less (by dsimp only; omega) ((hb1 k).1 rfl) (.inr (by omega))⟩, by dsimp only; omega, by (refine Le.mk (by first | (cases o <;> kernel_rfl) | kernel_rfl) ?_ ?_ <;> repeat' (first | exact True.intro | refine And.intro ?_ ?_ | exact Imp.refl _ | exact imp_optV | exact Imp.num (by omega) | exact rfl))⟩
        · obtain ⟨k, rfl⟩ : ∃ k : Nat, d = k := ⟨d.toNat, by omega⟩
          exact ⟨(i + 1, z), [0, 1], ⟨by dsimp only; omega, hzb, by dsimp only; rw [hst]; exact hI.keep ((hb1 k).1 rfl) (by omega) (by omega)⟩, by dsimp only; omega, by (refine Le.mk (by first | (cases o <;> kernel_rfl) | kernel_rfl) ?_ ?_ <;> repeat' (first | exact True.intro | refine And.intro ?_ ?_ | exact Imp.refl _ | exact imp_optV | exact Imp.num (by omega) | exact rfl))⟩
        · exact ⟨(i + 1, z), [0, 1], ⟨by dsimp only; omega, hzb, by dsimp only; rw [hst]; exact hI.skip (fun _ => hb2.1 (by omega))⟩, by dsimp only; omega, by (refine Le.mk (by first | (cases o <;> kernel_rfl) | kernel_rfl) ?_ ?_ <;> repeat' (first | exact True.intro | refine And.intro ?_ ?_ | exact Imp.refl _ | exact imp_optV | exact Imp.num (by omega) | exact rfl))⟩
        · exact ⟨(i + 1, z), [0, 1], ⟨by dsimp only; omega, hzb, by dsimp only; rw [hst]; exact hI.skip (fun h => absurd h (by dsimp only; omega))⟩, by dsimp only; omega, by (refine Le.mk (by first | (cases o <;> kernel_rfl) | kernel_rfl) ?_ ?_ <;> repeat' (first | exact True.intro | refine And.intro ?_ ?_ | exact Imp.refl _ | exact imp_optV | exact Imp.num (by omega) | exact rfl))⟩
      have hI : LsI E a w z := by rw [show i = w.length by omega, List.take_length] at hI; exact hI
      clear hex hi
      rcases hI.end hlx with ⟨rfl, hn⟩ | ⟨Z, rfl, hZ⟩
      · (repeat' (conv => whnf); first | refine aC (fun _ => ?_) (fun _ => ?_) | refine aS ?_ | refine aG ?_ | refine aD ?_ | refine aH ?_ | refine aP_Uj ?_ | refine aI ?_ | refine aJ ?_ | refine aW (.qs [0, 1, 2, 3, 4, 5, 6, 7, 8, 9] (.l 10 [] (.qs [11] .nil) .no)) ?_ | refine aW (.qs [0, 1, 2, 3, 4, 5, 6, 7, 8, 9, 10, 11, 12, 13, 14, 15, 16, 17, 18, 19, 20, 21, 22, 23, 24, 25, 26, 28, 29, 30, 31] (.l 27 [] (.qs [32, 33] .nil) .no)) ?_ | fail); all_goals try (conv => whnf)
        exact ⟨(a + 1, o), [0], ⟨by dsimp only; omega, hB.skip (fun L' h => absurd h (hn L'))⟩, by dsimp only; omega, by (refine Le.mk (by first | (cases o <;> kernel_rfl) | kernel_rfl) ?_ ?_ <;> repeat' (first | exact True.intro | refine And.intro ?_ ?_ | exact Imp.refl _ | exact imp_optV | exact Imp.num (by omega) | exact rfl))⟩
        omega
      have hZ1 := hZ.p
      (repeat' (conv => whnf); first | refine aC (fun _ => ?_) (fun _ => ?_) | refine aS ?_ | refine aG ?_ | refine aH ?_ | refine aP_Uj ?_ | refine aI ?_ | refine aJ ?_ | refine aW (.qs [0, 1, 2, 3, 4, 5, 6, 7, 8, 9] (.l 10 [] (.qs [11] .nil) .no)) ?_ | refine aW (.qs [0, 1, 2, 3, 4, 5, 6, 7, 8, 9, 10, 11, 12, 13, 14, 15, 16, 17, 18, 19, 20, 21, 22, 23, 24, 25, 26, 28, 29, 30, 31] (.l 27 [] (.qs [32, 33] .nil) .no)) ?_ | fail); all_goals try (conv => whnf)
      refine CutOb.cut (Y := Unit) (st := fun _ => ⟨[(8, i64 Z), (6, .vec 1), (5, i64 a), (3, .psl 2 (eds es)), (1, .ptr 0 0)], [.box [.psl 1 (strs n.nm), .psl 5 (lns n.ln), .psl 8 (fls n.fl)], .vec 2 (eds w)]⟩) (inv := fun _ => ∀ c, o = some c → Z < c.length) ?_ ?_
      · rcases o with _ | c
        · (repeat' (conv => whnf); first | refine aC (fun _ => ?_) (fun _ => ?_) | refine aS ?_ | refine aG ?_ | refine aD ?_ | refine aH ?_ | refine aP_Uj ?_ | refine aI ?_ | refine aJ ?_ | refine aW (.qs [0, 1, 2, 3, 4, 5, 6, 7, 8, 9] (.l 10 [] (.qs [11] .nil) .no)) ?_ | refine aW (.qs [0, 1, 2, 3, 4, 5, 6, 7, 8, 9, 10, 11, 12, 13, 14, 15, 16, 17, 18, 19, 20, 21, 22, 23, 24, 25, 26, 28, 29, 30, 31] (.l 27 [] (.qs [32, 33] .nil) .no)) ?_ | fail); all_goals try (conv => whnf)
          · omega
          exact ⟨(), [0, 1], fun c h => by (cases h), by (refine Le.mk (by first | (cases o <;> kernel_rfl) | kernel_rfl) ?_ ?_ <;> repeat' (first | exact True.intro | refine And.intro ?_ ?_ | exact Imp.refl _ | exact imp_optV | exact Imp.num (by omega) | exact rfl))⟩
        · have hnl := nts_len c
          have hc1 := hB.pos
          (repeat' (conv => whnf); first | refine EqnOb.ne (nts_ne hc1) ?_ | refine aC (fun _ => ?_) (fun _ => ?_) | refine aS ?_ | refine aG ?_ | refine aD ?_ | refine aH ?_ | refine aP_Uj ?_ | refine aI ?_ | refine aJ ?_ | refine aW (.qs [0, 1, 2, 3, 4, 5, 6, 7, 8, 9] (.l 10 [] (.qs [11] .nil) .no)) ?_ | refine aW (.qs [0, 1, 2, 3, 4, 5, 6, 7, 8, 9, 10, 11, 12, 13, 14, 15, 16, 17, 18, 19, 20, 21, 22, 23, 24, 25, 26, 28, 29, 30, 31] (.l 27 [] (.qs [32, 33] .nil) .no)) ?_ | fail); all_goals try (conv => whnf)
          · omega
          · exact ⟨(a + 1, some c), [0], ⟨by dsimp only; omega, hB.skip (fun L' h => ⟨c, rfl, by rw [h.uniq hZ]; omega⟩)⟩, by dsimp only; omega, by (refine Le.mk (by first | (cases o <;> kernel_rfl) | kernel_rfl) ?_ ?_ <;> repeat' (first | exact True.intro | refine And.intro ?_ ?_ | exact Imp.refl _ | exact imp_optV | exact Imp.num (by omega) | exact rfl))⟩
          · exact ⟨(), [0, 1], fun c' h => by cases h; omega, by (refine Le.mk (by first | (cases o <;> kernel_rfl) | kernel_rfl) ?_ ?_ <;> repeat' (first | exact True.intro | refine And.intro ?_ ?_ | exact Imp.refl _ | exact imp_optV | exact Imp.num (by omega) | exact rfl))⟩
      rintro _ hlt4
      have hq1 : nts [a] = [[i64 a]] := rfl
      (repeat' (conv => whnf); first | refine aC (fun _ => ?_) (fun _ => ?_) | refine aS ?_ | refine aG ?_ | refine aD ?_ | refine aH ?_ | refine aP_Uj ?_ | refine aI ?_ | refine aJ ?_ | refine aW (.qs [0, 1, 2, 3, 4, 5, 6, 7, 8, 9] (.l 10 [] (.qs [11] .nil) .no)) ?_ | refine aW (.qs [0, 1, 2, 3, 4, 5, 6, 7, 8, 9, 10, 11, 12, 13, 14, 15, 16, 17, 18, 19, 20, 21, 22, 23, 24, 25, 26, 28, 29, 30, 31] (.l 27 [] (.qs [32, 33] .nil) .no)) ?_ | fail); all_goals try (conv => whnf)
      refine LoopOb.mk (Y := List Nat) (st := fun q => ⟨[(11, i64 (q.getD (q.length - 1) 0 : Nat)), (4, .vec 2), (8, i64 Z), (6, .vec 1), (5, i64 a), (3, .psl 2 (eds es)), (1, .ptr 0 0)], [.box [.psl 1 (strs n.nm), .psl 5 (lns n.ln), .psl 8 (fls n.fl)], .vec 2 (eds w), .vec 1 (nts q)]⟩)
        (inv := fun q => Pre E L a Z q ∧ cycF E L (Z - q.length) q = cycF E L (Z - 1) [a]) (fun q => Z - q.length) [a] [0, 1, 2] ⟨Pre.one haL2 hZ1, rfl⟩ (by (refine Le.mk (by first | (cases o <;> kernel_rfl) | kernel_rfl) ?_ ?_ <;> repeat' (first | exact True.intro | refine And.intro ?_ ?_ | exact Imp.refl _ | exact imp_optV | exact Imp.num (by omega) | exact rfl))) ?_
      rintro q ⟨hP, hC⟩
      have hnl := nts_len q
      have hPle := hP.le
      (repeat' (conv => whnf); first | refine aS ?_ | refine aG ?_ | refine aD ?_ | refine aH ?_ | refine aP_Uj ?_ | refine aI ?_ | refine aJ ?_ | refine aW (.qs [0, 1, 2, 3, 4, 5, 6, 7, 8, 9] (.l 10 [] (.qs [11] .nil) .no)) ?_ | refine aW (.qs [0, 1, 2, 3, 4, 5, 6, 7, 8, 9, 10, 11, 12, 13, 14, 15, 16, 17, 18, 19, 20, 21, 22, 23, 24, 25, 26, 28, 29, 30, 31] (.l 27 [] (.qs [32, 33] .nil) .no)) ?_ | fail); all_goals try (conv => whnf)
      refine CondOb.mk (fun hlt5 => ?_) (fun hlt5 => ?_)
      · have hqZ : q.length < Z := by omega
        (repeat' (conv => whnf); first | refine aC (fun _ => ?_) (fun _ => ?_) | refine aS ?_ | refine aG ?_ | refine aD ?_ | refine aH ?_ | refine aP_Uj ?_ | refine aI ?_ | refine aJ ?_ | refine aW (.qs [0, 1, 2, 3, 4, 5, 6, 7, 8, 9] (.l 10 [] (.qs [11] .nil) .no)) ?_ | refine aW (.qs [0, 1, 2, 3, 4, 5, 6, 7, 8, 9, 10, 11, 12, 13, 14, 15, 16, 17, 18, 19, 20, 21, 22, 23, 24, 25, 26, 28, 29, 30, 31] (.l 27 [] (.qs [32, 33] .nil) .no)) ?_ | fail); all_goals try (conv => whnf)
        refine LoopOb.mk (Y := Nat × Int) (st := fun y => ⟨[(13, i64 ((y.1 : Int) - 1)), (12, i64 y.2), (11, i64 (q.getD (q.length - 1) 0 : Nat)), (4, .vec 2), (8, i64 Z), (6, .vec 1), (5, i64 a), (3, .psl 2 (eds es)), (1, .ptr 0 0)], [.box [.psl 1 (strs n.nm), .psl 5 (lns n.ln), .psl 8 (fls n.fl)], .vec 2 (eds w), .vec 1 (nts q)]⟩)
          (inv := fun y => y.1 ≤ w.length ∧ (-1 ≤ y.2 ∧ y.2 < L) ∧ NxS (Pg E a Z q) (w.drop y.1) y.2) (fun y => y.1) (w.length, -1) [0, 1, 2] ⟨by simp, ⟨by simp, by dsimp only; omega⟩, by simp only [List.drop_length]; exact NxS.nil _⟩ (by (refine Le.mk (by first | (cases o <;> kernel_rfl) | kernel_rfl) ?_ ?_ <;> repeat' (first | exact True.intro | refine And.intro ?_ ?_ | exact Imp.refl _ | exact imp_optV | exact Imp.num (by omega) | exact rfl))) ?_
        rintro ⟨k, nz⟩ ⟨hk, hnb, hN⟩
        dsimp only at hk hnb hN ⊢
        (repeat' (conv => whnf); first | refine aS ?_ | refine aG ?_ | refine aD ?_ | refine aH ?_ | refine aP_Uj ?_ | refine aI ?_ | refine aJ ?_ | refine aW (.qs [0, 1, 2, 3, 4, 5, 6, 7, 8, 9] (.l 10 [] (.qs [11] .nil) .no)) ?_ | refine aW (.qs [0, 1, 2, 3, 4, 5, 6, 7, 8, 9, 10, 11, 12, 13, 14, 15, 16, 17, 18, 19, 20, 21, 22, 23, 24, 25, 26, 28, 29, 30, 31] (.l 27 [] (.qs [32, 33] .nil) .no)) ?_ | fail); all_goals try (conv => whnf)
        refine CondOb.mk (fun hge => ?_) (fun hge => ?_)
        · obtain ⟨k, rfl⟩ : ∃ j, k = j + 1 := ⟨k - 1, by omega⟩
          have hkl : k < w.length := by omega
          have hg := eds_get hkl
          have hxy := hwb _ (ed_memU hkl)
          have hdr := drop_at hkl
          have ho := ord_drop hox hkl
          generalize w.getD k (0, 0) = e at *
          obtain ⟨x, y⟩ := e
          dsimp only at hg hxy ho
          obtain ⟨hb1, _, _⟩ := bfs_all (sub_ok (a := a) hE) hlx hxy.2 haL2
          have hBk := rbackV_ok w L y a hwb (by omega) hxy.2 haL2 (by omega)
          have hPg : Pg E a Z q (x, y) ↔ x = q.getD (q.length - 1) 0 ∧ y ≠ a ∧ farD w y L a = ((Z - q.length : Nat) : Int) := ⟨fun h => ⟨h.1, h.2.1, (hb1 _).2 h.2.2⟩, fun h => ⟨h.1, h.2.1, (hb1 _).1 h.2.2⟩⟩
          have hyes : (x = q.getD (q.length - 1) 0 ∧ y ≠ a ∧ farD w y L a = ((Z - q.length : Nat) : Int)) → NxS (Pg E a Z q) (w.drop k) (y : Int) := fun h => by
            rw [hdr]; exact NxS.yes (P := Pg E a Z q) (e := (x, y)) (hPg.2 h) (fun f hf hpf => ho f hf (hpf.1.trans h.1.symm))
          have hno : ¬(x = q.getD (q.length - 1) 0 ∧ y ≠ a ∧ farD w y L a = ((Z - q.length : Nat) : Int)) → NxS (Pg E a Z q) (w.drop k) nz := fun h => by
            rw [hdr]; exact hN.no (fun h2 => h (hPg.1 h2))
          clear hPg hN hb1
          generalize farD w y L a = d at *
          generalize q.getD (q.length - 1) 0 = lst at *
          (repeat' (conv => whnf); first | (refine CallOb.mk [1] hBk rfl ⟨Imp.refl _, Imp.num (by rw [hll]), Imp.refl _, Imp.refl _, trivial⟩ rfl rfl ?_; rintro _ _ ⟨rfl, rfl⟩) | refine ⟨0, rfl, by omega, ?_⟩ | refine ⟨1, rfl, by omega, ?_⟩ | refine ⟨_, hg, ?_⟩ | refine ⟨k, by omega, by omega, ?_⟩ | refine aC (fun _ => ?_) (fun _ => ?_) | refine aS ?_ | refine aG ?_ | refine aD ?_ | refine aH ?_ | refine aP_Uj ?_ | refine aI ?_ | refine aJ ?_ | refine aW (.qs [0, 1, 2, 3, 4, 5, 6, 7, 8, 9] (.l 10 [] (.qs [11] .nil) .no)) ?_ | refine aW (.qs [0, 1, 2, 3, 4, 5, 6, 7, 8, 9, 10, 11, 12, 13, 14, 15, 16, 17, 18, 19, 20, 21, 22, 23, 24, 25, 26, 28, 29, 30, 31] (.l 27 [] (.qs [32, 33] .nil) .no)) ?_ | fail); all_goals try (conv => whnf)
          · exact ⟨(k, (y : Int)), [0, 1, 2], ⟨by dsimp only; omega, ⟨by dsimp only; omega, by dsimp only; omega⟩, hyes ⟨by omega, by omega, by omega⟩⟩, by dsimp only; omega, by (refine Le.mk (by first | (cases o <;> kernel_rfl) | kernel_rfl) ?_ ?_ <;> repeat' (first | exact True.intro | refine And.intro ?_ ?_ | exact Imp.refl _ | exact imp_optV | exact Imp.num (by omega) | exact rfl))⟩
          all_goals exact ⟨(k, nz), [0, 1, 2], ⟨by dsimp only; omega, hnb, hno (fun h => by omega)⟩, by dsimp only; omega, by (refine Le.mk (by first | (cases o <;> kernel_rfl) | kernel_rfl) ?_ ?_ <;> repeat' (first | exact True.intro | refine And.intro ?_ ?_ | exact Imp.refl _ | exact imp_optV | exact Imp.num (by omega) | exact rfl))⟩
        have hk0 : k = 0 := by omega
        subst hk0
        obtain ⟨b, rfl, hNx, hmin⟩ := NxS.end hlx hZ hP hqZ hN
        have hgo := (Pre.go hE hZ hP (k := Z - q.length) (by omega)).2.2 b (Z - q.length - 1) (by omega) hNx hmin
        have e11 : (q ++ [b]).getD ((q ++ [b]).length - 1) 0 = b := by
          rw [List.length_append, List.length_singleton, Nat.add_sub_cancel]; exact getD_app_r
        have happ := nts_app q [b]
        (repeat' (conv => whnf); first | refine aC (fun _ => ?_) (fun _ => ?_) | refine aS ?_ | refine aG ?_ | refine aD ?_ | refine aH ?_ | refine aP_Uj ?_ | refine aI ?_ | refine aJ ?_ | refine aW (.qs [0, 1, 2, 3, 4, 5, 6, 7, 8, 9] (.l 10 [] (.qs [11] .nil) .no)) ?_ | refine aW (.qs [0, 1, 2, 3, 4, 5, 6, 7, 8, 9, 10, 11, 12, 13, 14, 15, 16, 17, 18, 19, 20, 21, 22, 23, 24, 25, 26, 28, 29, 30, 31] (.l 27 [] (.qs [32, 33] .nil) .no)) ?_ | fail); all_goals try (conv => whnf)
        refine ⟨q ++ [b], [0, 1, 4], ⟨hP.snoc hE hqZ hNx, ?_⟩, ?_, ?_⟩
        · rw [List.length_append, List.length_singleton, show Z - (q.length + 1) = Z - q.length - 1 by omega, ← hgo]; exact hC
        · rw [List.length_append, List.length_singleton]; omega
        · rw [e11, happ]; (refine Le.mk (by first | (cases o <;> kernel_rfl) | kernel_rfl) ?_ ?_ <;> repeat' (first | exact True.intro | refine And.intro ?_ ?_ | exact Imp.refl _ | exact imp_optV | exact Imp.num (by omega) | exact rfl))
      have hqe : q.length = Z := by omega
      have hcy : cycF E L (q.length - 1) [a] = some q := by
        rw [hqe, ← hC, hqe, Nat.sub_self]; exact (Pre.go hE hZ hP (k := 0) (by omega)).2.1 rfl
      have hnew := hB.new (hqe.symm ▸ hZ) hcy (fun c h => by have := hlt4 c h; omega)
      (repeat' (conv => whnf); first | refine aC (fun _ => ?_) (fun _ => ?_) | refine aS ?_ | refine aG ?_ | refine aD ?_ | refine aP_Uj ?_ | refine aI ?_ | refine aJ ?_ | refine aW (.qs [0, 1, 2, 3, 4, 5, 6, 7, 8, 9] (.l 10 [] (.qs [11] .nil) .no)) ?_ | refine aW (.qs [0, 1, 2, 3, 4, 5, 6, 7, 8, 9, 10, 11, 12, 13, 14, 15, 16, 17, 18, 19, 20, 21, 22, 23, 24, 25, 26, 28, 29, 30, 31] (.l 27 [] (.qs [32, 33] .nil) .no)) ?_ | fail); all_goals try (conv => whnf)
      refine .mk [.fz 2] ?_
      (conv => whnf)
      exact ⟨(a + 1, some q), [0], ⟨by dsimp only; omega, hnew⟩, by dsimp only; omega, by (refine Le.mk (by first | (cases o <;> kernel_rfl) | kernel_rfl) ?_ ?_ <;> repeat' (first | exact True.intro | refine And.intro ?_ ?_ | exact Imp.refl _ | exact imp_optV | exact Imp.num (by omega) | exact rfl))⟩
    · rw [(hex (.inr (by omega))).cyc hE]
      clear hex hB
      rcases o with _ | c
      · (repeat' (conv => whnf); first | refine AsgOb.nil ?_ | (refine aC (fun _ => ?_) (fun _ => ?_) <;> try (exfalso; omega)) | refine aS ?_ | refine aG ?_ | refine aD ?_ | refine aH ?_ | refine aP_Uj ?_ | refine aI ?_ | refine aJ ?_ | refine aW (.qs [0, 1, 2, 3, 4, 5, 6, 7, 8, 9] (.l 10 [] (.qs [11] .nil) .no)) ?_ | refine aW (.qs [0, 1, 2, 3, 4, 5, 6, 7, 8, 9, 10, 11, 12, 13, 14, 15, 16, 17, 18, 19, 20, 21, 22, 23, 24, 25, 26, 28, 29, 30, 31] (.l 27 [] (.qs [32, 33] .nil) .no)) ?_ | fail); all_goals try (conv => whnf)
        exact ⟨rfl, Imp.refl _⟩
      · (repeat' (conv => whnf); first | refine aC (fun _ => ?_) (fun _ => ?_) | refine aS ?_ | refine aG ?_ | refine aD ?_ | refine aH ?_ | refine aP_Uj ?_ | refine aI ?_ | refine aJ ?_ | refine aW (.qs [0, 1, 2, 3, 4, 5, 6, 7, 8, 9] (.l 10 [] (.qs [11] .nil) .no)) ?_ | refine aW (.qs [0, 1, 2, 3, 4, 5, 6, 7, 8, 9, 10, 11, 12, 13, 14, 15, 16, 17, 18, 19, 20, 21, 22, 23, 24, 25, 26, 28, 29, 30, 31] (.l 27 [] (.qs [32, 33] .nil) .no)) ?_ | fail); all_goals try (conv => whnf)
        exact ⟨rfl, Imp.refl _⟩
  · rw [(hex (.inl (by omega))).cyc hE]
    clear hex hB
    rcases o with _ | c
    · (repeat' (conv => whnf); first | refine AsgOb.nil ?_ | (refine aC (fun _ => ?_) (fun _ => ?_) <;> try (exfalso; omega)) | refine aS ?_ | refine aG ?_ | refine aD ?_ | refine aH ?_ | refine aP_Uj ?_ | refine aI ?_ | refine aJ ?_ | refine aW (.qs [0, 1, 2, 3, 4, 5, 6, 7, 8, 9] (.l 10 [] (.qs [11] .nil) .no)) ?_ | refine aW (.qs [0, 1, 2, 3, 4, 5, 6, 7, 8, 9, 10, 11, 12, 13, 14, 15, 16, 17, 18, 19, 20, 21, 22, 23, 24, 25, 26, 28, 29, 30, 31] (.l 27 [] (.qs [32, 33] .nil) .no)) ?_ | fail); all_goals try (conv => whnf)
      exact ⟨rfl, Imp.refl _⟩
    · (repeat' (conv => whnf); first | refine aC (fun _ => ?_) (fun _ => ?_) | refine aS ?_ | refine aG ?_ | refine aD ?_ | refine aH ?_ | refine aP_Uj ?_ | refine aI ?_ | refine aJ ?_ | refine aW (.qs [0, 1, 2, 3, 4, 5, 6, 7, 8, 9] (.l 10 [] (.qs [11] .nil) .no)) ?_ | refine aW (.qs [0, 1, 2, 3, 4, 5, 6, 7, 8, 9, 10, 11, 12, 13, 14, 15, 16, 17, 18, 19, 20, 21, 22, 23, 24, 25, 26, 28, 29, 30, 31] (.l 27 [] (.qs [32, 33] .nil) .no)) ?_ | fail); all_goals try (conv => whnf)
      exact ⟨rfl, Imp.refl _⟩
end Go.Proofs.Ytnlmmjmcackgjaa
