/-
  A text of the proofs of this seat: lemmas that the statements' proofs use; it states nothing of the program by itself beyond the contracts that its theorems bear. Conditions: those that stand in each theorem. Its short name: Y7.
-/
import Derived.Test.YtgbmiacpjmchdaaGreatY6
set_option linter.unusedVariables false
set_option linter.unusedSimpArgs false
namespace Go.Proofs.YtgbmiacpjmchdaaGreat
open Go.Sx Go.Np Go.Cv Go.Tp
set_option maxRecDepth 4000
set_option maxHeartbeats 2000000
theorem mbs_len (n : Nt) (l c : Int) : (members n l c).length ≤ n.fl.length := by
  unfold members users
  exact Nat.le_trans mbr_len usr_len
theorem sumC_of {f g : C3} (hf : Good f) (hg : Good g) : Ctr Tryz.prog 48 [crv f.1 f.2.1 f.2.2, crv g.1 g.2.1 g.2.2] [] (fun r o => ∃ y : C3 × Int, SumX f g (toX y) ∧ o = [] ∧ r = .tup [crv y.1.1 y.1.2.1 y.1.2.2, i64 y.2]) :=
  atC_of (SumX_ok f g hf.1 hg.1 hf.2 hg.2) (fun _ h => sumX_pos h)
theorem aP_Y7 {A B K : Prop} (k : K) (a : A := by (simp only [zA, zT, zD, zC, zN, ints_len, zR, lnl, fll, stl]; omega)) (b : B := by (simp only [zA, zT, zD, zC, zN, ints_len, zR, lnl, fll, stl]; omega)) : (A ∧ B) ∧ K := ⟨⟨a, b⟩, k⟩
theorem ClassXC_ok (n : Nt) (hn : NL n) (d : List (List Int)) (hd : DL d) (line : Int) (a : C3) (ha : Good a) (x : Int) :
    Ctr Tryz.prog 46 [crv a.1 a.2.1 a.2.2, i64 x, .pptr [.psl 1 (strs n.nm), .psl 5 (lns n.ln), .psl 8 (fls n.fl)], .pptr [.psl 1 (dls d)], .pptr [i64 line]] [] (fun r o => ∃ y : C3 × Int, StepR n d line x a y ∧ o = [] ∧ r = .tup [crv y.1.1 y.1.2.1 y.1.2.2, i64 y.2]) := by
  refine Ctr.impE ?_
  refine fn_intro (E := env 0) tys_ok rfl rfl rfl Tryz.func46 (by kernel_rfl) rfl (by kernel_rfl) ?_
  have cH := Hop_ok n hn x line
  have cA := atC_of (lAt_ok n hn d hd x (hop n x line)) (fun _ h => atP_pos h)
  (repeat' (conv => whnf); first | (refine aC (fun _ => ?_) (fun _ => ?_) <;> try (exfalso; omega)) | refine aS ?_ | refine aG ?_ | refine aD ?_ | refine aH ?_ | refine aP_Y7 ?_ | refine aI ?_ | refine aJ ?_ | refine aW (.qs [0, 1, 2, 3, 4, 5] (.l 6 [1, 0] (.l 7 [] (.qs [8, 9, 10] (.l 11 [] (.l 12 [] (.qs [13] .nil) .no) .no)) (.l 11 [1, 0] (.l 7 [] (.qs [8, 9, 10] (.l 12 [] (.qs [13] .nil) .no)) .no) .no)) (.l 11 [5, 3, 1, 0] (.l 6 [1, 0] (.l 7 [] (.qs [8, 9, 10] (.l 12 [] (.qs [13] .nil) .no)) .no) .no) .no))) ?_ | (refine aK [] cH ?_) | (refine CallOb.mk [] cA rfl (ImpL.refl _) rfl rfl ?_; rintro _ _ ⟨⟨c, e⟩, hc, rfl, rfl⟩; dsimp only at hc ⊢) | (refine CallOb.mk [] (sumC_of ha (atP_good hc (show e = 0 by omega))) rfl (ImpL.refl _) rfl rfl ?_; rintro _ _ ⟨⟨b, e2⟩, hb, rfl, rfl⟩) | refine And.intro ?_ ?_ | fail); all_goals try (conv => whnf)
  all_goals first
    | exact ⟨(b, e2), ⟨(c, e), hc, .inr ⟨show e = 0 by omega, hb⟩⟩, rfl, Imp.refl _⟩
    | exact ⟨zE e, ⟨(c, e), hc, .inl ⟨by assumption, rfl⟩⟩, rfl, Imp.tup ⟨imp_zero, Imp.refl _, trivial⟩⟩
    | trace_state
theorem ClassX_ok (n : Nt) (hn : NL n) (hb : n.fl.length ≤ 1000) (d : List (List Int)) (hd : DL d) (l c : Int) :
    Ctr Tryz.prog 18 [ntv n, .psl 1 (dls d), i64 l, i64 c] [] (fun r o => ∃ y : C3 × Int, ClsP n d l c y ∧ o = [] ∧ r = .tup [crv y.1.1 y.1.2.1 y.1.2.2, i64 y.2]) := by
  refine Ctr.impE ?_
  refine fn_intro (E := env 0) tys_ok rfl rfl rfl Tryz.func18 (by kernel_rfl) rfl (by kernel_rfl) ?_
  have hll := lnl n.ln
  by_cases hR : ShapeP n d ∧ (0 ≤ l ∧ l < n.ln.length ∧ 0 ≤ c ∧ c < (n.ln.getD l.toNat ln0).n)
  · obtain ⟨hS, hr⟩ := hR
    have hg := lng (l := n.ln) (i := l.toNat) (by omega)
    have hm : (members n l c).length ≤ 1000000 := by have := mbs_len n l c; omega
    have cF := foldX_ok 46 (.pptr [.psl 1 (strs n.nm), .psl 5 (lns n.ln), .psl 8 (fls n.fl)]) (.pptr [.psl 1 (dls d)]) (.pptr [i64 l]) (members n l c) hm Good (fun i a y => StepR n d l ((members n l c).getD i 0) a y) ([0], 1, 0) zero_good (fun i a y ha h he => h.good ha he) (fun i a hi ha => ClassXC_ok n hn d hd l a ha _)
    have cM := Members_ok n hn hb l c
    have hY : ∀ y, FoldR (fun i a y => StepR n d l ((members n l c).getD i 0) a y) (members n l c).length 0 ([0], 1, 0) y → ClsP n d l c y := fun y h => .inr (.inr ⟨hS, hr, h⟩)
    generalize n.ln.getD l.toNat ln0 = ll at *
    (repeat' (conv => whnf); first | refine LitOb.ful ?_ | refine ⟨l.toNat, _, by omega, hg, ?_⟩ | (refine aC (fun _ => ?_) (fun _ => ?_) <;> try (exfalso; omega)) | refine aS ?_ | refine aG ?_ | refine aD ?_ | refine aP_Y7 ?_ | refine aI ?_ | refine aJ ?_ | refine aW (.qs [0, 1, 2, 4, 5] (.l 3 [4] (.l 6 [] (.qs [7, 8] (.l 9 [] (.qs [10] .nil) .no)) .no) .no)) ?_ | (refine Gh.mk [] ?_; (conv => whnf); refine aK [] (Shape_ok n hn d hd) ?_) | (refine Gh.mk [] ?_; (conv => whnf); refine aK [] cM ?_) | fail); all_goals try (conv => whnf)
    · exact absurd hS (by assumption)
    refine .mk [.fb 0, .fb 1, .fb 2] ?_
    refine CallOb.mk [] cF rfl ⟨Imp.refl _, Imp.agg ⟨Imp.fulp rfl, Imp.refl _, Imp.refl _, trivial⟩, Imp.fn ⟨Imp.shut rfl, Imp.shut rfl, Imp.shut rfl, trivial⟩, trivial⟩ rfl rfl ?_
    rintro _ _ ⟨⟨b, e⟩, hb2, rfl, rfl⟩
    dsimp only at hb2 ⊢
    (repeat' (conv => whnf); first | (refine aC (fun _ => ?_) (fun _ => ?_) <;> try (exfalso; omega)) | refine aS ?_ | refine aG ?_ | refine aD ?_ | refine aH ?_ | refine aP_Y7 ?_ | refine aI ?_ | refine aJ ?_ | refine aW (.qs [0, 1, 2, 4, 5] (.l 3 [4] (.l 6 [] (.qs [7, 8] (.l 9 [] (.qs [10] .nil) .no)) .no) .no)) ?_ | fail); all_goals try (conv => whnf)
    all_goals exact ⟨(b, e), hY _ hb2, rfl, Imp.refl _⟩
  · (repeat' (conv => whnf); first | refine LitOb.ful ?_ | refine ⟨l.toNat, _, by omega, lng (l := n.ln) (i := l.toNat) (by omega), ?_⟩ | (refine aC (fun _ => ?_) (fun _ => ?_) <;> try (exfalso; omega)) | refine aS ?_ | refine aG ?_ | refine aD ?_ | refine aH ?_ | refine aP_Y7 ?_ | refine aI ?_ | refine aJ ?_ | refine aW (.qs [0, 1, 2, 4, 5] (.l 3 [4] (.l 6 [] (.qs [7, 8] (.l 9 [] (.qs [10] .nil) .no)) .no) .no)) ?_ | (refine aK [] (Shape_ok n hn d hd) ?_) | fail); all_goals try (conv => whnf)
    all_goals try exact ⟨zE 6, .inl ⟨by assumption, rfl⟩, rfl, Imp.tup ⟨imp_zero, Imp.refl _, trivial⟩⟩
    all_goals
      have hSp : ShapeP n d := Classical.not_not.1 (by assumption)
      have hno : ¬(0 ≤ l ∧ l < n.ln.length ∧ 0 ≤ c ∧ c < (n.ln.getD l.toNat ln0).n) := fun k => hR ⟨hSp, k⟩
    all_goals first
      | (refine ⟨zE 2, .inr (.inl ⟨hSp, hno, rfl⟩), rfl, Imp.tup ⟨imp_zero, Imp.refl _, trivial⟩⟩; done)
      | (exfalso; omega)
end Go.Proofs.YtgbmiacpjmchdaaGreat
