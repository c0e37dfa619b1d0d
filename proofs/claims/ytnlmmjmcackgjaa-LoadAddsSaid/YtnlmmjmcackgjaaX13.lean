/-
  A text of the proofs of this seat: lemmas that the statements' proofs use; it states nothing of the program by itself beyond the contracts that its theorems bear. Conditions: those that stand in each theorem. Its short name: X13.
-/
import Derived.Test.YtnlmmjmcackgjaaX12
set_option linter.unusedVariables false
set_option linter.unusedSimpArgs false
namespace Go.Proofs.Ytnlmmjmcackgjaa
open Go.Sx Go.Cv
set_option maxRecDepth 4000
set_option maxHeartbeats 2000000
def pl2 (f g : C3) (t : Nat) : Int := cv f t + cv g t
theorem SumC_ok (a b : C3) (ha : VC a) (hb : VC b) (fa : FinC a) (fb : FinC b) (t : Nat) (h : t ≤ 1000000) :
    Ctr Try.prog 126 [i64 t, .pptr [.psl 1 (ints a.1), i64 a.2.1, i64 a.2.2], .pptr [.psl 1 (ints b.1), i64 b.2.1, i64 b.2.2]] [] (fun r o => o = [] ∧ r = i64 (pl2 a b t)) := by
  refine fn_intro (E := env 0) tys_ok rfl rfl rfl Try.func126 (by kernel_rfl) rfl (by kernel_rfl) ?_
  have cA := WAt_ok _ _ _ t (bd_of ha) (by omega) (by omega)
  have cB := WAt_ok _ _ _ t (bd_of hb) (by omega) (by omega)
  rw [Int.toNat_natCast] at cA cB
  have a1 := cv_nonneg ha t
  have b1 := cv_nonneg hb t
  have a2 := cv_small ha (t := t) (by omega) (fa.not ha _)
  have b2 := cv_small hb (t := t) (by omega) (fb.not hb _)
  unfold pl2
  unfold cv at *
  generalize val a.1 a.2.1 a.2.2 t = x at *
  generalize val b.1 b.2.1 b.2.2 t = y at *
  repeat' (conv => whnf
           first | (refine CondOb.mk (fun _ => ?_) (fun _ => ?_) <;> first | (exfalso; omega) | skip) | refine ArOb.fits (by first | omega | (simp only [ints_len] at *; omega)) ?_ | refine LitOb.vec ?_ | refine MakeOb.vec ?_ | refine AllocOb.box ?_ | refine AsgOb.vec ?_ | refine AggOb.mk (by decide +kernel) ?_ | refine ArU.fits (by first | omega | (simp only [ints_len] at *; omega)) ?_ | refine ArB.fits (by first | omega | (simp only [ints_len] at *; omega)) ?_ | refine CutOb.split ?_ | refine Gh.mk [] ?_ | refine And.intro (And.intro (by (simp only [List.length_append, List.length_take, List.length_drop, List.length_cons, List.length_nil, ints_len, List.length_replicate, lnl, fll, stl]; omega)) (by (simp only [List.length_append, List.length_take, List.length_drop, List.length_cons, List.length_nil, ints_len, List.length_replicate, lnl, fll, stl]; omega))) ?_ | refine ⟨_, _, rfl, ints_get (by first | omega | (simp only [ints_len] at *; omega)), ?_⟩ | refine ⟨_, _, (Int.toNat_of_nonneg (by first | omega | (simp only [ints_len] at *; omega))).symm, ints_get (by first | omega | (simp only [ints_len] at *; omega)), ?_⟩ | refine DrawOb.mk [] (.qs [0, 1, 3, 4] (.l 2 [3] (.l 5 [] (.l 6 [] (.qs [7] .nil) .no) .no) .no)) (by decide +kernel) ?_ | (refine CallOb.mk [] cA rfl (ImpL.refl _) rfl rfl ?_; rintro _ _ ⟨rfl, rfl⟩) | (refine CallOb.mk [] cB rfl (ImpL.refl _) rfl rfl ?_; rintro _ _ ⟨rfl, rfl⟩) | (refine CallOb.mk [] (wPlus_ok x y a1 b1 a2 b2) rfl (ImpL.refl _) rfl rfl ?_; rintro _ _ ⟨rfl, rfl⟩) | fail)
  all_goals try (conv => whnf)
  exact ⟨rfl, rfl⟩
end Go.Proofs.Ytnlmmjmcackgjaa
