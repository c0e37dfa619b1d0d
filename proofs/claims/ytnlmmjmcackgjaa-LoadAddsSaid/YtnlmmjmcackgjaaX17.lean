/-
  A text of the proofs of this seat: lemmas that the statements' proofs use; it states nothing of the program by itself beyond the contracts that its theorems bear. Conditions: those that stand in each theorem. Its short name: X17.
-/
import Derived.Test.YtnlmmjmcackgjaaX16
set_option linter.unusedVariables false
set_option linter.unusedSimpArgs false
namespace Go.Proofs.Ytnlmmjmcackgjaa
open Go.Sx Go.Np Go.Cv Go.Tp
set_option maxRecDepth 4000
set_option maxHeartbeats 2000000
theorem Class_ok (n : Nt) (hn : NL n) (hb : n.fl.length ≤ 1000) (d : List (List Int)) (hd : DL d) (hS : ShapeP n d) (l c : Int) (hl : 0 ≤ l ∧ l < n.ln.length) (hc : 0 ≤ c ∧ c < (n.ln.getD l.toNat ln0).n) (hm : (members n l c).length ≤ 1000000) (I : Nat → C3 → Prop) (h0 : I 0 ([0], 1, 0))
    (hcall : ∀ i a, i < (members n l c).length → I i a → Ctr Try.prog 113 [crv a.1 a.2.1 a.2.2, i64 ((members n l c).getD i 0), .pptr [.psl 1 (strs n.nm), .psl 5 (lns n.ln), .psl 8 (fls n.fl)], .pptr [.psl 1 (dls d)], .pptr [i64 l]] [] (fun r o => ∃ y : C3 × Int, (y.2 = 0 → I (i + 1) y.1) ∧ o = [] ∧ r = .tup [crv y.1.1 y.1.2.1 y.1.2.2, i64 y.2])) :
    Ctr Try.prog 83 [ntv n, .psl 1 (dls d), i64 l, i64 c] [] (fun r o => ∃ y : C3 × Int, (y.2 = 0 → I (members n l c).length y.1) ∧ o = [] ∧ r = .tup [crv y.1.1 y.1.2.1 y.1.2.2, i64 y.2]) := by
  refine Ctr.impE ?_
  refine fn_intro (E := env 0) tys_ok rfl rfl rfl Try.func83 (by kernel_rfl) rfl (by kernel_rfl) ?_
  have hll := lnl n.ln
  have hg := lng (l := n.ln) (i := l.toNat) (by omega)
  have cF := foldC_ok 113 (.pptr [.psl 1 (strs n.nm), .psl 5 (lns n.ln), .psl 8 (fls n.fl)]) (.pptr [.psl 1 (dls d)]) (.pptr [i64 l]) (members n l c) hm I ([0], 1, 0) h0 hcall
  have cM := Members_ok n hn hb l c
  generalize n.ln.getD l.toNat ln0 = ll at *
  repeat' (conv => whnf
           first | refine LitOb.ful ?_ | refine ⟨l.toNat, _, by omega, hg, ?_⟩ | (refine CondOb.mk (fun _ => ?_) (fun _ => ?_) <;> first | (exfalso; omega) | skip) | refine ArOb.fits (by first | omega | (simp only [ints_len] at *; omega)) ?_ | refine LitOb.vec ?_ | refine MakeOb.vec ?_ | refine AllocOb.box ?_ | refine AsgOb.vec ?_ | refine AggOb.mk (by decide +kernel) ?_ | refine ArU.fits (by first | omega | (simp only [ints_len] at *; omega)) ?_ | refine ArB.fits (by first | omega | (simp only [ints_len] at *; omega)) ?_ | refine CutOb.split ?_ | refine And.intro (And.intro (by (simp only [List.length_append, List.length_take, List.length_drop, List.length_cons, List.length_nil, ints_len, List.length_replicate, lnl, fll, stl]; omega)) (by (simp only [List.length_append, List.length_take, List.length_drop, List.length_cons, List.length_nil, ints_len, List.length_replicate, lnl, fll, stl]; omega))) ?_ | refine ⟨_, _, rfl, ints_get (by first | omega | (simp only [ints_len] at *; omega)), ?_⟩ | refine ⟨_, _, (Int.toNat_of_nonneg (by first | omega | (simp only [ints_len] at *; omega))).symm, ints_get (by first | omega | (simp only [ints_len] at *; omega)), ?_⟩ | refine DrawOb.mk [] (.qs [0, 1, 2, 4, 5] (.l 3 [4] (.l 6 [] (.qs [7, 8] (.l 9 [] (.qs [10] .nil) .no)) .no) .no)) (by decide +kernel) ?_ | (refine Gh.mk [] ?_; (conv => whnf); refine CallOb.mk [] (Shape_ok n hn d hd) rfl (ImpL.refl _) rfl rfl ?_; rintro _ _ ⟨rfl, rfl⟩) | (refine Gh.mk [] ?_; (conv => whnf); refine CallOb.mk [] cM rfl (ImpL.refl _) rfl rfl ?_; rintro _ _ ⟨rfl, rfl⟩) | fail)
  all_goals try (conv => whnf)
  · exact absurd hS (by assumption)
  refine .mk [.fb 0, .fb 1, .fb 2] ?_
  refine CallOb.mk [] cF rfl ⟨Imp.refl _, Imp.agg ⟨Imp.fulp rfl, Imp.refl _, Imp.refl _, trivial⟩, Imp.fn ⟨Imp.shut rfl, Imp.shut rfl, Imp.shut rfl, trivial⟩, trivial⟩ rfl rfl ?_
  rintro _ _ ⟨⟨b, e⟩, hb2, rfl, rfl⟩
  dsimp only at hb2 ⊢
  repeat' (conv => whnf
           first | (refine CondOb.mk (fun _ => ?_) (fun _ => ?_) <;> first | (exfalso; omega) | skip) | refine ArOb.fits (by first | omega | (simp only [ints_len] at *; omega)) ?_ | refine LitOb.vec ?_ | refine MakeOb.vec ?_ | refine AllocOb.box ?_ | refine AsgOb.vec ?_ | refine AggOb.mk (by decide +kernel) ?_ | refine ArU.fits (by first | omega | (simp only [ints_len] at *; omega)) ?_ | refine ArB.fits (by first | omega | (simp only [ints_len] at *; omega)) ?_ | refine CutOb.split ?_ | refine Gh.mk [] ?_ | refine And.intro (And.intro (by (simp only [List.length_append, List.length_take, List.length_drop, List.length_cons, List.length_nil, ints_len, List.length_replicate, lnl, fll, stl]; omega)) (by (simp only [List.length_append, List.length_take, List.length_drop, List.length_cons, List.length_nil, ints_len, List.length_replicate, lnl, fll, stl]; omega))) ?_ | refine ⟨_, _, rfl, ints_get (by first | omega | (simp only [ints_len] at *; omega)), ?_⟩ | refine ⟨_, _, (Int.toNat_of_nonneg (by first | omega | (simp only [ints_len] at *; omega))).symm, ints_get (by first | omega | (simp only [ints_len] at *; omega)), ?_⟩ | refine DrawOb.mk [] (.qs [0, 1, 2, 4, 5] (.l 3 [4] (.l 6 [] (.qs [7, 8] (.l 9 [] (.qs [10] .nil) .no)) .no) .no)) (by decide +kernel) ?_ | fail)
  all_goals try (conv => whnf)
  all_goals exact ⟨(b, e), hb2, rfl, Imp.refl _⟩
end Go.Proofs.Ytnlmmjmcackgjaa
