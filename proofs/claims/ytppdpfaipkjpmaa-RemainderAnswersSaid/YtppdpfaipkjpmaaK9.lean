/-
  A text of the proofs of this seat: lemmas that the statements' proofs use; it states nothing of the program by itself beyond the contracts that its theorems bear. Conditions: those that stand in each theorem. Its short name: K9.
-/
import Derived.Test.YtppdpfaipkjpmaaK8
import Derived.Test.YtppdpfaipkjpmaaPl
set_option linter.unusedVariables false
set_option linter.unusedSimpArgs false
namespace Go.Proofs.Ytppdpfaipkjpmaa
open Go.Sx Go.Cv
set_option maxRecDepth 4000
set_option maxHeartbeats 2000000
theorem ldiff_ok (f g : C3) (t : Nat) (hf : VC f) (hg : VC g) (ff : FinC f) (fg : FinC g) (ht : t ≤ 1048576) : Ctr Try.prog 31 [crv f.1 f.2.1 f.2.2, crv g.1 g.2.1 g.2.2, i64 t] [] (fun r o => o = [] ∧ r = i64 (max 0 (cv f t - cv g t))) := by
  have h1 := cv_small hf ht (ff.not hf t)
  have h2 := cv_small hg ht (fg.not hg t)
  have h3 := cv_nonneg hf t
  have h4 := cv_nonneg hg t
  refine Ctr.imp ?_
  refine fn_intro (E := env 0) tys_ok rfl rfl rfl Try.func31 (by kernel_rfl) rfl (by kernel_rfl) ?_
  repeat' (conv => whnf
           first
           | (refine CondOb.mk (fun _ => ?_) (fun _ => ?_) <;> first | (exfalso; omega) | skip)
           | refine ArOb.fits (by first | omega | (simp only [ints_len] at *; omega)) ?_
           | refine LitOb.vec ?_
           | refine MakeOb.vec ?_
           | refine AllocOb.box ?_
           | refine AggOb.mk (by decide +kernel) ?_
           | refine ArU.fits (by first | omega | (simp only [ints_len] at *; omega)) ?_
           | refine ArB.fits (by first | omega | (simp only [ints_len] at *; omega)) ?_
           | refine CutOb.split ?_
           | refine Gh.mk [] ?_
           | refine And.intro (And.intro (by (simp only [List.length_append, List.length_take, List.length_drop, List.length_cons, List.length_nil, ints_len, List.length_replicate, Go.Cv.vals_len]; omega)) (by (simp only [List.length_append, List.length_take, List.length_drop, List.length_cons, List.length_nil, ints_len, List.length_replicate, Go.Cv.vals_len]; omega))) ?_
           | refine ⟨_, _, rfl, ints_get (by first | omega | (simp only [ints_len] at *; omega)), ?_⟩
           | refine ⟨_, _, (Int.toNat_of_nonneg (by first | omega | (simp only [ints_len] at *; omega))).symm, ints_get (by first | omega | (simp only [ints_len] at *; omega)), ?_⟩
           | refine DrawOb.mk [] (.qs [0, 1, 3, 4] (.l 2 [3] (.l 5 [] (.qs [6, 7] .nil) .no) .no)) (by decide +kernel) ?_
           | (refine CallOb.mk [] (rAt_ok f t hf ht) rfl (ImpL.refl _) rfl rfl ?_; rintro _ _ ⟨rfl, rfl⟩)
           | (refine CallOb.mk [] (rAt_ok g t hg ht) rfl (ImpL.refl _) rfl rfl ?_; rintro _ _ ⟨rfl, rfl⟩)
           | fail)
  all_goals try (conv => whnf)
  exact ⟨rfl, Imp.refl _⟩
end Go.Proofs.Ytppdpfaipkjpmaa
