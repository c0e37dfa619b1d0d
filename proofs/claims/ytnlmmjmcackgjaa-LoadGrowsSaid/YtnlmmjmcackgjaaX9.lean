/-
  A text of the proofs of this seat: lemmas that the statements' proofs use; it states nothing of the program by itself beyond the contracts that its theorems bear. Conditions: those that stand in each theorem. Its short name: X9.
-/
import Derived.Test.YtnlmmjmcackgjaaRs
import Derived.Test.YtnlmmjmcackgjaaVc
import Derived.Test.YtnlmmjmcackgjaaPl
set_option linter.unusedVariables false
set_option linter.unusedSimpArgs false
namespace Go.Proofs.Ytnlmmjmcackgjaa
open Go.Sx Go.Cv Go.Np
set_option maxRecDepth 4000
set_option maxHeartbeats 2000000
theorem LeastC (f : C3) (hf : VC f) : Ctr Try.prog 75 [crv f.1 f.2.1 f.2.2] [] (fun r o => ∃ a : C3, NF (cv f) a.1 a.2.1 a.2.2 ∧ o = [] ∧ r = crv a.1 a.2.1 a.2.2) :=
  (Least_ok f.1 f.2.1 f.2.2 (bd_of hf)).mono fun r o ⟨x, h1, h2, h3⟩ => ⟨x, h1.nf hf, h2, h3⟩
theorem nf_len {F : Nat → Int} {a f : C3} (hf : VC f) (h : NF (cv f) a.1 a.2.1 a.2.2) : a.1.length ≤ 400 := (h.vf hf).1.n2
/- curves with the same values are equal -/
theorem Equal_ok (f g : C3) (hf : VC f) (hg : VC g) (he : ∀ t, cv f t = cv g t) : Ctr Try.prog 38 [crv f.1 f.2.1 f.2.2, crv g.1 g.2.1 g.2.2] [] (fun r o => o = [] ∧ r = .bl true) := by
  refine Ctr.imp ?_
  refine fn_intro (E := env 0) tys_ok rfl rfl rfl Try.func38 (by kernel_rfl) rfl (by kernel_rfl) ?_
  have e : cv g = cv f := funext fun t => (he t).symm
  repeat' (conv => whnf
           first | (refine CondOb.mk (fun _ => ?_) (fun _ => ?_) <;> first | (exfalso; omega) | skip) | refine ArOb.fits (by first | omega | (simp only [ints_len] at *; omega)) ?_ | refine LitOb.vec ?_ | refine MakeOb.vec ?_ | refine AllocOb.box ?_ | refine AsgOb.vec ?_ | refine AggOb.mk (by decide +kernel) ?_ | refine ArU.fits (by first | omega | (simp only [ints_len] at *; omega)) ?_ | refine ArB.fits (by first | omega | (simp only [ints_len] at *; omega)) ?_ | refine CutOb.split ?_ | refine Gh.mk [] ?_ | refine And.intro (And.intro (by (simp only [List.length_append, List.length_take, List.length_drop, List.length_cons, List.length_nil, ints_len, List.length_replicate, lnl, fll, stl]; omega)) (by (simp only [List.length_append, List.length_take, List.length_drop, List.length_cons, List.length_nil, ints_len, List.length_replicate, lnl, fll, stl]; omega))) ?_ | refine ⟨_, _, rfl, ints_get (by first | omega | (simp only [ints_len] at *; omega)), ?_⟩ | refine ⟨_, _, (Int.toNat_of_nonneg (by first | omega | (simp only [ints_len] at *; omega))).symm, ints_get (by first | omega | (simp only [ints_len] at *; omega)), ?_⟩ | refine DrawOb.mk [] (.qs [0] (.l 1 [] (.qs [2, 3] (.l 4 [] (.qs [5, 6, 7, 9] (.l 8 [9] (.l 10 [] (.l 11 [] (.qs [12, 13] .nil) .no) .no) .no)) .no)) .no)) (by decide +kernel) ?_ | (refine CallOb.mk [] (rCurve_ok f.1 f.2.1 f.2.2) rfl (ImpL.refl _) rfl rfl ?_; rintro _ _ ⟨rfl, rfl⟩) | (refine CallOb.mk [] (rCurve_ok g.1 g.2.1 g.2.2) rfl (ImpL.refl _) rfl rfl ?_; rintro _ _ ⟨rfl, rfl⟩) | (refine CallOb.mk [] (LeastC f hf) rfl (ImpL.refl _) rfl rfl ?_; rintro _ _ ⟨a, ha, rfl, rfl⟩) | (refine CallOb.mk [] (LeastC g hg) rfl (ImpL.refl _) rfl rfl ?_; rintro _ _ ⟨b, hb, rfl, rfl⟩) | (refine CallOb.mk [] (Same_ok a.1 b.1 a.2.1 a.2.2 b.2.1 b.2.2 (by have := nf_len (F := cv f) hf ha; omega)) rfl (ImpL.refl _) rfl rfl ?_; rintro _ _ ⟨rfl, rfl⟩) | fail)
  all_goals try (conv => whnf)
  all_goals first
    | (exfalso; exact absurd hf.valid (by assumption))
    | (exfalso; exact absurd hg.valid (by assumption))
    | (rw [e] at hb; obtain ⟨e1, e2, e3⟩ := ha.uniq hb; exact ⟨rfl, Imp.bpl ⟨fun _ => rfl, fun _ => ⟨e1, by rw [e2], e3⟩⟩⟩)
    | (rw [e] at hb; obtain ⟨e1, e2, e3⟩ := ha.uniq hb; exact Imp.bpl ⟨fun _ => rfl, fun _ => ⟨e1, by rw [e2], e3⟩⟩)
    | trace_state
end Go.Proofs.Ytnlmmjmcackgjaa
