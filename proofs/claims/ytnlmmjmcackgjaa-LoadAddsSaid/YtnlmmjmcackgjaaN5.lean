/-
  A text of the proofs of this seat: lemmas that the statements' proofs use; it states nothing of the program by itself beyond the contracts that its theorems bear. Conditions: those that stand in each theorem. Its short name: N5.
-/
import Derived.Test.YtnlmmjmcackgjaaN4
set_option linter.unusedVariables false
set_option linter.unusedSimpArgs false
namespace Go.Proofs.Ytnlmmjmcackgjaa
open Go.Sx Go.Np
set_option maxRecDepth 4000
set_option maxHeartbeats 2000000
theorem rlCheck_ok (l : Ln) (hl : LL l) : Ctr Try.prog 91 [lv l] [] (fun r o => o = [] ∧ r = i64 (lnErr l)) := by
  refine fn_intro (E := env 0) tys_ok rfl rfl rfl Try.func91 (by kernel_rfl) rfl (by kernel_rfl) ?_
  have hw := hl.w
  have hs := hl.s
  have c1 := rwithin_ok l.w hl.w 1 20
  have c2 := rwithin_ok l.w hl.w 1 6000
  have c3 := rwithin_ok l.s hl.s (-1) (l.n - 1)
  have hlw := ints_len l.w
  have hls := ints_len l.s
  repeat' (conv => whnf
           first | (refine CondOb.mk (fun _ => ?_) (fun _ => ?_) <;> first | (exfalso; omega) | skip) | refine ArOb.fits (by first | omega | (simp only [ints_len] at *; omega)) ?_ | refine LitOb.vec ?_ | refine MakeOb.vec ?_ | refine AllocOb.box ?_ | refine AsgOb.vec ?_ | refine AggOb.mk (by decide +kernel) ?_ | refine ArU.fits (by first | omega | (simp only [ints_len] at *; omega)) ?_ | refine ArB.fits (by first | omega | (simp only [ints_len] at *; omega)) ?_ | refine CutOb.split ?_ | refine Gh.mk [] ?_ | refine And.intro (And.intro (by (simp only [List.length_append, List.length_take, List.length_drop, List.length_cons, List.length_nil, ints_len, List.length_replicate, lnl, fll, stl]; omega)) (by (simp only [List.length_append, List.length_take, List.length_drop, List.length_cons, List.length_nil, ints_len, List.length_replicate, lnl, fll, stl]; omega))) ?_ | refine ⟨_, _, rfl, ints_get (by first | omega | (simp only [ints_len] at *; omega)), ?_⟩ | refine ⟨_, _, (Int.toNat_of_nonneg (by first | omega | (simp only [ints_len] at *; omega))).symm, ints_get (by first | omega | (simp only [ints_len] at *; omega)), ?_⟩ | (refine CallOb.mk [] c1 rfl (ImpL.refl _) rfl rfl ?_; rintro _ _ ⟨rfl, rfl⟩) | (refine CallOb.mk [] c2 rfl (ImpL.refl _) rfl rfl ?_; rintro _ _ ⟨rfl, rfl⟩) | (refine CallOb.mk [] c3 rfl (ImpL.refl _) rfl rfl ?_; rintro _ _ ⟨rfl, rfl⟩) | fail)
  all_goals try (conv => whnf)
  all_goals first
    | (refine ⟨rfl, ?_⟩; show SV.num IntKind.i64 _ = SV.num IntKind.i64 _; congr 1; unfold lnErr lsErr; clear c1 c2 c3; grind)
    | trace_state
end Go.Proofs.Ytnlmmjmcackgjaa
