/-
  A text of the proofs of this seat: lemmas that the statements' proofs use; it states nothing of the program by itself beyond the contracts that its theorems bear. Conditions: those that stand in each theorem. Its short name: X16.
-/
import Derived.Test.YtnlmmjmcackgjaaX15
import Derived.Test.YtnlmmjmcackgjaaX14
set_option linter.unusedVariables false
set_option linter.unusedSimpArgs false
namespace Go.Proofs.Ytnlmmjmcackgjaa
open Go.Sx Go.Np Go.Cv Go.Tp
set_option maxRecDepth 4000
set_option maxHeartbeats 2000000
theorem ClassC_ok (n : Nt) (hn : NL n) (d : List (List Int)) (line : Int) (a : C3) (x : Int) (Q R : C3 → Prop)
    (cA : Ctr Try.prog 35 [ntv n, .psl 1 (dls d), i64 x, i64 (hop n x line)] [] (fun r o => ∃ y : C3 × Int, (y.2 = 0 → Q y.1) ∧ o = [] ∧ r = .tup [crv y.1.1 y.1.2.1 y.1.2.2, i64 y.2]))
    (cS : ∀ c, Q c → Ctr Try.prog 114 [crv a.1 a.2.1 a.2.2, crv c.1 c.2.1 c.2.2] [] (fun r o => ∃ b : C3, R b ∧ o = [] ∧ r = .tup [crv b.1 b.2.1 b.2.2, i64 0])) :
    Ctr Try.prog 113 [crv a.1 a.2.1 a.2.2, i64 x, .pptr [.psl 1 (strs n.nm), .psl 5 (lns n.ln), .psl 8 (fls n.fl)], .pptr [.psl 1 (dls d)], .pptr [i64 line]] [] (fun r o => ∃ y : C3 × Int, (y.2 = 0 → R y.1) ∧ o = [] ∧ r = .tup [crv y.1.1 y.1.2.1 y.1.2.2, i64 y.2]) := by
  refine Ctr.impE ?_
  refine fn_intro (E := env 0) tys_ok rfl rfl rfl Try.func113 (by kernel_rfl) rfl (by kernel_rfl) ?_
  have cH := Hop_ok n hn x line
  repeat' (conv => whnf
           first | (refine CondOb.mk (fun _ => ?_) (fun _ => ?_) <;> first | (exfalso; omega) | skip) | refine ArOb.fits (by first | omega | (simp only [ints_len] at *; omega)) ?_ | refine LitOb.vec ?_ | refine MakeOb.vec ?_ | refine AllocOb.box ?_ | refine AsgOb.vec ?_ | refine AggOb.mk (by decide +kernel) ?_ | refine ArU.fits (by first | omega | (simp only [ints_len] at *; omega)) ?_ | refine ArB.fits (by first | omega | (simp only [ints_len] at *; omega)) ?_ | refine CutOb.split ?_ | refine Gh.mk [] ?_ | refine And.intro (And.intro (by (simp only [List.length_append, List.length_take, List.length_drop, List.length_cons, List.length_nil, ints_len, List.length_replicate, lnl, fll, stl]; omega)) (by (simp only [List.length_append, List.length_take, List.length_drop, List.length_cons, List.length_nil, ints_len, List.length_replicate, lnl, fll, stl]; omega))) ?_ | refine ⟨_, _, rfl, ints_get (by first | omega | (simp only [ints_len] at *; omega)), ?_⟩ | refine ⟨_, _, (Int.toNat_of_nonneg (by first | omega | (simp only [ints_len] at *; omega))).symm, ints_get (by first | omega | (simp only [ints_len] at *; omega)), ?_⟩ | refine DrawOb.mk [] (.qs [0, 1, 2, 3, 4, 5] (.l 6 [1, 0] (.l 7 [] (.qs [8, 9, 10] (.l 11 [] (.l 12 [] (.qs [13] .nil) .no) .no)) (.l 11 [1, 0] (.l 7 [] (.qs [8, 9, 10] (.l 12 [] (.qs [13] .nil) .no)) .no) .no)) (.l 11 [5, 3, 1, 0] (.l 6 [1, 0] (.l 7 [] (.qs [8, 9, 10] (.l 12 [] (.qs [13] .nil) .no)) .no) .no) .no))) (by decide +kernel) ?_ | (refine CallOb.mk [] cH rfl (ImpL.refl _) rfl rfl ?_; rintro _ _ ⟨rfl, rfl⟩) | (refine CallOb.mk [] cA rfl (ImpL.refl _) rfl rfl ?_; rintro _ _ ⟨⟨c, e⟩, hc, rfl, rfl⟩; dsimp only at hc ⊢) | (refine CallOb.mk [] (cS _ (hc (by omega))) rfl (ImpL.refl _) rfl rfl ?_; rintro _ _ ⟨b, hb, rfl, rfl⟩) | refine And.intro ?_ ?_ | fail)
  all_goals try (conv => whnf)
  all_goals first
    | exact ⟨(b, 0), fun _ => hb, rfl, Imp.refl _⟩
    | exact ⟨(([], 0, 0), e), fun h => absurd h (by assumption), rfl, Imp.tup ⟨imp_zero, Imp.refl _, trivial⟩⟩
    | trace_state
end Go.Proofs.Ytnlmmjmcackgjaa
