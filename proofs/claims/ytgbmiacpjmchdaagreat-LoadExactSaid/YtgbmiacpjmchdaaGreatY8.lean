/-
  A text of the proofs of this seat: lemmas that the statements' proofs use; it states nothing of the program by itself beyond the contracts that its theorems bear. Conditions: those that stand in each theorem. Its short name: Y8.
-/
import Derived.Test.YtgbmiacpjmchdaaGreatY5
import Derived.Test.YtgbmiacpjmchdaaGreatY7
import Derived.Test.YtgbmiacpjmchdaaGreatNq
set_option linter.unusedVariables false
set_option linter.unusedSimpArgs false
namespace Go.Proofs.YtgbmiacpjmchdaaGreat
open Go.Sx Go.Np Go.Cv Go.Tp
set_option maxRecDepth 4000
set_option maxHeartbeats 2000000
theorem rsumC_of {f g : C3} (hf : Good f) (hg : Good g) : Ctr Tryz.prog 52 [crv f.1 f.2.1 f.2.2, crv g.1 g.2.1 g.2.2] [] (fun r o => ∃ y : C3 × Int, SumX f g (toX y) ∧ o = [] ∧ r = .tup [crv y.1.1 y.1.2.1 y.1.2.2, i64 y.2]) :=
  atC_of (rSumX_ok f g hf.1 hg.1 hf.2 hg.2) (fun _ h => sumX_pos h)
theorem aP_Y8 {A B K : Prop} (k : K) (a : A := by (simp only [zA, zT, zD, zC, zN, ints_len, zR, lnl, fll, stl]; omega)) (b : B := by (simp only [zA, zT, zD, zC, zN, ints_len, zR, lnl, fll, stl]; omega)) : (A ∧ B) ∧ K := ⟨⟨a, b⟩, k⟩
theorem rZero_ok : Ctr Tryz.prog 49 [] [] (fun r o => o = [] ∧ r = crv [0] 1 0) := by
  refine Ctr.imp ?_
  refine fn_intro (E := env 0) tys_ok rfl rfl rfl Tryz.func49 (by kernel_rfl) rfl (by kernel_rfl) ?_
  (repeat' (conv => whnf); first | (refine aC (fun _ => ?_) (fun _ => ?_) <;> try (exfalso; omega)) | refine aS ?_ | refine aG ?_ | refine aD ?_ | refine aP_Y8 ?_ | refine aI ?_ | refine aJ ?_ | fail); all_goals try (conv => whnf)
  refine .mk [.fa] ?_
  (repeat' (conv => whnf); first | (refine aC (fun _ => ?_) (fun _ => ?_) <;> try (exfalso; omega)) | refine aS ?_ | refine aG ?_ | refine aD ?_ | refine aH ?_ | refine aP_Y8 ?_ | refine aI ?_ | refine aJ ?_ | fail); all_goals try (conv => whnf)
  exact ⟨rfl, Imp.refl _⟩
theorem rClassX_ok (n : Nt) (hn : NL n) (hb : n.fl.length ≤ 1000) (d : List (List Int)) (hd : DL d) (l c : Int) :
    Ctr Tryz.prog 19 [ntv n, .psl 1 (dls d), i64 l, i64 c] [] (fun r o => ∃ y : C3 × Int, ClsP n d l c y ∧ o = [] ∧ r = .tup [crv y.1.1 y.1.2.1 y.1.2.2, i64 y.2]) := by
  refine Ctr.impE ?_
  refine fn_intro (E := env 0) tys_ok rfl rfl rfl Tryz.func19 (by kernel_rfl) rfl (by kernel_rfl) ?_
  have hll := lnl n.ln
  by_cases hR : ShapeP n d ∧ (0 ≤ l ∧ l < n.ln.length ∧ 0 ≤ c ∧ c < (n.ln.getD l.toNat ln0).n)
  · obtain ⟨hS, hr⟩ := hR
    have hg := lng (l := n.ln) (i := l.toNat) (by omega)
    have hm : (members n l c).length ≤ 1000000 := by have := mbs_len n l c; omega
    have cM := rMembers_ok n hn hb l c
    have hY : ∀ y, FoldR (fun i a y => StepR n d l ((members n l c).getD i 0) a y) (members n l c).length 0 ([0], 1, 0) y → ClsP n d l c y := fun y h => .inr (.inr ⟨hS, hr, h⟩)
    generalize members n l c = ms at *
    have hml := ints_len ms
    generalize n.ln.getD l.toNat ln0 = ll at *
    (repeat' (conv => whnf); first | refine ⟨l.toNat, _, by omega, hg, ?_⟩ | (refine aC (fun _ => ?_) (fun _ => ?_) <;> try (exfalso; omega)) | refine aS ?_ | refine aG ?_ | refine aD ?_ | refine aH ?_ | refine aP_Y8 ?_ | refine aI ?_ | refine aJ ?_ | (refine aK [] (rShape_ok n hn d hd) ?_) | (refine aK [] (rZero_ok) ?_) | (refine aK [] cM ?_) | fail); all_goals try (conv => whnf)
    all_goals try exact absurd hS (by assumption)
    refine LoopOb.mk (Y := Nat × C3) (st := fun y => ⟨[(12, i64 y.1), (11, .psl 1 (ints ms)), (10, .ptr 2 0), (9, i64 0), (8, .ptr 1 0), (4, .ptr 0 0), (1, .psl 1 (dls d)), (2, i64 l)], [.box [.psl 1 (strs n.nm), .psl 5 (lns n.ln), .psl 8 (fls n.fl)], .box [.nil, i64 0, i64 0], .box [.psl 1 (ints y.2.1), i64 y.2.2.1, i64 y.2.2.2]]⟩)
      (inv := fun y => y.1 ≤ ms.length ∧ Good y.2 ∧ ∀ z, FoldR (fun i a y => StepR n d l (ms.getD i 0) a y) ms.length y.1 y.2 z → ClsP n d l c z) (fun y => ms.length - y.1) (0, ([0], 1, 0)) [0, 1, 2] ⟨by simp, zero_good, hY⟩ (by (exact aL)) ?_
    rintro ⟨i, a⟩ ⟨hi, hI, hz⟩
    dsimp only at hi hI hz ⊢
    (repeat' (conv => whnf); first | refine aS ?_ | refine aG ?_ | refine aD ?_ | refine aH ?_ | refine aP_Y8 ?_ | refine aI ?_ | refine aJ ?_ | fail); all_goals try (conv => whnf)
    refine CondOb.mk (fun hlt => ?_) (fun hlt => ?_)
    · have hil : i < ms.length := by omega
      have hgm := ints_get hil
      have hC := fun (x : C3 × Int) (h : StepR n d l (ms.getD i 0) a x) => h
      generalize hxe : ms.getD i 0 = x at *
      have cH := rHop_ok n hn x l
      have cA := atC_of (rAtL_ok n hn d hd x (hop n x l)) (fun _ h => atP_pos h)
      have hgo : ∀ b : C3, StepR n d l x a (b, 0) → ∀ z, FoldR (fun i a y => StepR n d l (ms.getD i 0) a y) ms.length (i + 1) b z → ClsP n d l c z := fun b hb z h => hz z (.go (x := (b, 0)) hil (by rw [hxe]; exact hb) rfl h)
      have her : ∀ b e, StepR n d l x a (b, e) → e ≠ 0 → ClsP n d l c (zE e) := fun b e hb he => hz _ (.err (x := (b, e)) hil (by rw [hxe]; exact hb) he)
      (repeat' (conv => whnf); first | refine ⟨i, _, rfl, hgm, ?_⟩ | (refine aC (fun _ => ?_) (fun _ => ?_) <;> try (exfalso; omega)) | refine aS ?_ | refine aG ?_ | refine aD ?_ | refine aH ?_ | refine aP_Y8 ?_ | refine aI ?_ | refine aJ ?_ | refine aW (.qs [0, 1, 2, 3, 4, 5, 6, 7, 8, 9, 10, 11] (.l 12 [5, 0] (.l 13 [] (.qs [14, 15, 16] (.l 17 [] (.l 18 [] (.qs [19] .nil) .no) .no)) (.l 17 [5, 0] (.l 13 [] (.qs [14, 15, 16] (.l 18 [] (.qs [19] .nil) .no)) .no) .no)) (.l 17 [10, 6, 5, 0] (.l 12 [5, 0] (.l 13 [] (.qs [14, 15, 16] (.l 18 [] (.qs [19] .nil) .no)) .no) .no) .no))) ?_ | (refine aK [] cH ?_) | (refine CallOb.mk [] cA rfl (ImpL.refl _) rfl rfl ?_; rintro _ _ ⟨⟨u, e⟩, hu, rfl, rfl⟩; dsimp only at hu ⊢) | (refine CallOb.mk [] (rsumC_of hI (atP_good hu (show e = 0 by omega))) rfl (ImpL.refl _) rfl rfl ?_; rintro _ _ ⟨⟨b, e2⟩, hb, rfl, rfl⟩; dsimp only at hb ⊢) | refine And.intro ?_ ?_ | fail); all_goals try (conv => whnf)
      all_goals first
        | (refine ⟨zE e, her ([], 0, 0) e ⟨(u, e), hu, .inl ⟨by assumption, rfl⟩⟩ (by assumption), rfl, Imp.tup ⟨imp_zero, Imp.refl _, trivial⟩⟩; done)
        | (refine ⟨zE e2, her b e2 ⟨(u, e), hu, .inr ⟨by omega, hb⟩⟩ (by assumption), rfl, Imp.tup ⟨imp_zero, Imp.refl _, trivial⟩⟩; done)
        | (obtain rfl : e2 = 0 := by omega
           have hst : StepR n d l x a (b, 0) := ⟨(u, e), hu, .inr ⟨by omega, hb⟩⟩
           exact ⟨(i + 1, b), [0, 1, 2], ⟨by dsimp only; omega, hst.good hI rfl, hgo b hst⟩, by dsimp only; omega, by (exact aL)⟩)
        | trace_state
    · have hil : i = ms.length := by omega
      subst hil
      (repeat' (conv => whnf); first | (refine aC (fun _ => ?_) (fun _ => ?_) <;> try (exfalso; omega)) | refine aS ?_ | refine aG ?_ | refine aD ?_ | refine aH ?_ | refine aP_Y8 ?_ | refine aI ?_ | refine aJ ?_ | fail); all_goals try (conv => whnf)
      exact ⟨(a, 0), hz _ (.stop a), rfl, Imp.refl _⟩
  · (repeat' (conv => whnf); first | refine ⟨l.toNat, _, by omega, lng (l := n.ln) (i := l.toNat) (by omega), ?_⟩ | (refine aC (fun _ => ?_) (fun _ => ?_) <;> try (exfalso; omega)) | refine aS ?_ | refine aG ?_ | refine aD ?_ | refine aH ?_ | refine aP_Y8 ?_ | refine aI ?_ | refine aJ ?_ | (refine aK [] (rShape_ok n hn d hd) ?_) | (refine aK [] (rZero_ok) ?_) | fail); all_goals try (conv => whnf)
    all_goals try exact ⟨zE 6, .inl ⟨by assumption, rfl⟩, rfl, Imp.tup ⟨imp_zero, Imp.refl _, trivial⟩⟩
    all_goals
      have hSp : ShapeP n d := Classical.not_not.1 (by assumption)
      have hno : ¬(0 ≤ l ∧ l < n.ln.length ∧ 0 ≤ c ∧ c < (n.ln.getD l.toNat ln0).n) := fun k => hR ⟨hSp, k⟩
    all_goals first
      | (refine ⟨zE 2, .inr (.inl ⟨hSp, hno, rfl⟩), rfl, Imp.tup ⟨imp_zero, Imp.refl _, trivial⟩⟩; done)
      | (exfalso; omega)
end Go.Proofs.YtgbmiacpjmchdaaGreat
