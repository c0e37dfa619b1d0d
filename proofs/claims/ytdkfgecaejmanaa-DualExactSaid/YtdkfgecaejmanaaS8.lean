/-
  A text of the proofs of this seat: lemmas that the statements' proofs use; it states nothing of the program by itself beyond the contracts that its theorems bear. Conditions: those that stand in each theorem. Its short name: S8.
-/
import Derived.Test.YtdkfgecaejmanaaS7
import Derived.Test.YtdkfgecaejmanaaPl
set_option linter.unusedVariables false
set_option linter.unusedSimpArgs false
namespace Go.Proofs.Ytdkfgecaejmanaa
open Go.Sx Go.Fq
set_option maxRecDepth 4000
set_option maxHeartbeats 2000000
def p0 : Pr := ⟨[(1, 1), (1, 1)], [([(1, 1), (1, 1)], 2, (3, 1))]⟩
def q0 : Pr := ⟨[(1, 1), (1, 1)], [([(1, 1), (0, 1)], 1, (1, 1)), ([(1, 1), (0, 1)], 2, (2, 1))]⟩
theorem p0_vp : VP p0 := by unfold VP; decide +kernel
theorem q0_vp : VP q0 := by unfold VP; decide +kernel
theorem p0_sgn : Sgn p0 [(1, 1)] := (sgn_iff p0_vp rfl).2 (by unfold SgnAt; decide +kernel)
theorem p0_blw : Blw p0 [(1, 1)] (fun j => p0.c.getD j (0, 1)) := by unfold Blw; decide +kernel
theorem p0_bd : prod (bds p0) [(1, 1)] = (3, 1, 0) := by decide +kernel
theorem p0_bound : bound p0 [(1, 1)] = (3, 1, 0) := (bound_yes p0_vp ⟨p0_sgn, p0_blw⟩).trans p0_bd
theorem p0_feas : Feas p0 [(3, 1), (0, 1)] := ⟨p0_vp, rfl, by decide +kernel, by decide +kernel, by unfold rowOK keeps; decide +kernel⟩
theorem p0_opt : Opt p0 [(3, 1), (0, 1)] [(1, 1)] := ⟨p0_feas, by rw [p0_bound], by rw [p0_bound]; decide +kernel⟩
theorem q0_inf : Inf q0 [(-1, 1), (1, 1)] := ⟨(sgn_iff q0_vp rfl).2 (by unfold SgnAt; decide +kernel), by unfold Blw; decide +kernel, by decide +kernel, by decide +kernel⟩
theorem q0_ninf : ¬Inf q0 [(1, 1), (1, 1)] := fun h => absurd ((sgn_iff q0_vp rfl).1 h.1) (by unfold SgnAt; decide +kernel)
theorem p0_nchk : ¬Chk p0 (0, [], (0, 0), [], []) := by unfold Chk; simp
theorem whole_ok (n : Int) : Ctr Try.prog 31 [i64 n] [] (fun r o => o = [] ∧ r = .agg [i64 n, i64 1]) := by
  refine fn_intro (E := env 0) tys_ok rfl rfl rfl Try.func31 (by kernel_rfl) rfl (by kernel_rfl) ?_
  repeat' (conv => whnf
           first | refine CondOb.mk (fun _ => ?_) (fun _ => ?_) | refine ArOb.fits (by first | omega | (simp only [ints_len] at *; omega)) ?_ | refine LitOb.vec ?_ | refine MakeOb.vec ?_ | refine AllocOb.box ?_ | refine AggOb.mk (by decide +kernel) ?_ | refine ArU.fits (by first | omega | (simp only [ints_len] at *; omega)) ?_ | refine ArB.fits (by first | omega | (simp only [ints_len] at *; omega)) ?_ | refine CutOb.split ?_ | refine Gh.mk [] ?_ | refine And.intro (And.intro (by (simp only [List.length_append, List.length_take, List.length_drop, List.length_cons, List.length_nil, ints_len, List.length_replicate, fr_len, rw_len]; omega)) (by (simp only [List.length_append, List.length_take, List.length_drop, List.length_cons, List.length_nil, ints_len, List.length_replicate, fr_len, rw_len]; omega))) ?_ | refine ⟨_, _, rfl, ints_get (by first | omega | (simp only [ints_len] at *; omega)), ?_⟩ | refine ⟨_, _, (Int.toNat_of_nonneg (by first | omega | (simp only [ints_len] at *; omega))).symm, ints_get (by first | omega | (simp only [ints_len] at *; omega)), ?_⟩ | fail)
  all_goals try (conv => whnf)
  exact ⟨rfl, rfl⟩
theorem row_ok' (a b s c : Int) : Ctr Try.prog 35 [i64 a, i64 b, i64 s, i64 c] [] (fun r o => o = [] ∧ r = .agg [fsl [(a, 1), (b, 1)], i64 s, i64 c, i64 1]) := by
  refine Ctr.imp ?_
  refine fn_intro (E := env 0) tys_ok rfl rfl rfl Try.func35 (by kernel_rfl) rfl (by kernel_rfl) ?_
  repeat' (conv => whnf
           first | refine LitOb.ful ?_ | refine CondOb.mk (fun _ => ?_) (fun _ => ?_) | refine ArOb.fits (by first | omega | (simp only [ints_len] at *; omega)) ?_ | refine LitOb.vec ?_ | refine MakeOb.vec ?_ | refine AllocOb.box ?_ | refine AggOb.mk (by decide +kernel) ?_ | refine ArU.fits (by first | omega | (simp only [ints_len] at *; omega)) ?_ | refine ArB.fits (by first | omega | (simp only [ints_len] at *; omega)) ?_ | refine CutOb.split ?_ | refine Gh.mk [] ?_ | refine And.intro (And.intro (by (simp only [List.length_append, List.length_take, List.length_drop, List.length_cons, List.length_nil, ints_len, List.length_replicate, fr_len, rw_len]; omega)) (by (simp only [List.length_append, List.length_take, List.length_drop, List.length_cons, List.length_nil, ints_len, List.length_replicate, fr_len, rw_len]; omega))) ?_ | refine ⟨_, _, rfl, ints_get (by first | omega | (simp only [ints_len] at *; omega)), ?_⟩ | refine ⟨_, _, (Int.toNat_of_nonneg (by first | omega | (simp only [ints_len] at *; omega))).symm, ints_get (by first | omega | (simp only [ints_len] at *; omega)), ?_⟩ | (refine CallOb.mk [] (whole_ok a) rfl (ImpL.refl _) rfl rfl ?_; rintro _ _ ⟨rfl, rfl⟩) | (refine CallOb.mk [] (whole_ok b) rfl (ImpL.refl _) rfl rfl ?_; rintro _ _ ⟨rfl, rfl⟩) | (refine CallOb.mk [] (whole_ok c) rfl (ImpL.refl _) rfl rfl ?_; rintro _ _ ⟨rfl, rfl⟩) | fail)
  all_goals try (conv => whnf)
  exact ⟨rfl, Imp.agg ⟨Imp.fulp rfl, Imp.refl _, Imp.refl _, Imp.refl _, trivial⟩⟩
theorem pl0 : PL p0 := VP.pl p0_vp
theorem plq : PL q0 := VP.pl q0_vp
theorem sane_ok : Ctr Try.prog 8 [] [] (fun r o => o = [] ∧ r = .bl true) := by
  refine Ctr.imp ?_
  refine fn_intro (E := env 0) tys_ok rfl rfl rfl Try.func8 (by kernel_rfl) rfl (by kernel_rfl) ?_
  have cB := Bound_ok p0 pl0 [(1, 1)] (by decide)
  rw [p0_bound] at cB
  have cO := Optimal_ok p0 pl0 [(3, 1), (0, 1)] [(1, 1)] (by decide) (by decide)
  have cI := Infeasible_ok q0 plq [(-1, 1), (1, 1)] (by decide)
  have cJ := Infeasible_ok q0 plq [(1, 1), (1, 1)] (by decide)
  have cC := Check_ok p0 pl0 0 [] 0 0 [] [] (by decide) (by decide) (by decide)
  repeat' (conv => whnf
           first | (refine CondOb.mk (fun h => ?_) (fun h => ?_) <;> first | (exfalso; first | omega | exact h p0_opt | exact h q0_inf | exact q0_ninf h | exact h q0_ninf | exact h (by simp [conj]) | exact p0_nchk h) | skip) | refine LitOb.ful ?_ | (refine CondOb.mk (fun _ => ?_) (fun _ => ?_) <;> first | (exfalso; omega) | skip) | refine ArOb.fits (by first | omega | (simp only [ints_len] at *; omega)) ?_ | refine LitOb.vec ?_ | refine MakeOb.vec ?_ | refine AllocOb.box ?_ | refine AggOb.mk (by decide +kernel) ?_ | refine ArU.fits (by first | omega | (simp only [ints_len] at *; omega)) ?_ | refine ArB.fits (by first | omega | (simp only [ints_len] at *; omega)) ?_ | refine CutOb.split ?_ | refine Gh.mk [] ?_ | refine And.intro (And.intro (by (simp only [List.length_append, List.length_take, List.length_drop, List.length_cons, List.length_nil, ints_len, List.length_replicate, fr_len, rw_len]; omega)) (by (simp only [List.length_append, List.length_take, List.length_drop, List.length_cons, List.length_nil, ints_len, List.length_replicate, fr_len, rw_len]; omega))) ?_ | refine ⟨_, _, rfl, ints_get (by first | omega | (simp only [ints_len] at *; omega)), ?_⟩ | refine ⟨_, _, (Int.toNat_of_nonneg (by first | omega | (simp only [ints_len] at *; omega))).symm, ints_get (by first | omega | (simp only [ints_len] at *; omega)), ?_⟩ | refine DrawOb.mk [] (.qs [0] (.l 1 [0] (.l 2 [0] (.l 3 [] (.qs [4, 5, 6] (.l 7 [] (.l 8 [] (.qs [9] .nil) .no) .no)) (.l 7 [0] (.l 3 [] (.qs [4, 5, 6] (.l 8 [] (.qs [9] .nil) .no)) .no) .no)) (.l 7 [0] (.l 2 [0] (.l 3 [] (.qs [4, 5, 6] (.l 8 [] (.qs [9] .nil) .no)) .no) .no) .no)) (.l 7 [0] (.l 1 [0] (.l 2 [0] (.l 3 [] (.qs [4, 5, 6] (.l 8 [] (.qs [9] .nil) .no)) .no) .no) .no) .no))) (by decide +kernel) ?_ | refine DrawOb.mk [] (.qs [0, 1, 2, 3] (.l 4 [3] (.qs [5, 6, 7, 8] (.l 9 [8] (.l 10 [8] (.l 11 [8] (.l 12 [8] (.l 13 [8] (.l 14 [] (.qs [15, 16, 17] (.l 18 [17] (.l 19 [17] (.l 20 [17] (.l 21 [] (.qs [22, 23, 24] (.l 25 [24] (.l 26 [24] (.l 27 [24] (.l 28 [] (.qs [29, 30, 31, 32, 33] (.l 34 [] (.qs [35, 36, 37] .nil) .no)) .no) .no) .no) .no)) .no) .no) .no) .no)) .no) .no) .no) (.l 12 [8] (.l 11 [8] (.l 13 [8] (.l 14 [] (.qs [15, 16, 17] (.l 18 [17] (.l 19 [17] (.l 20 [17] (.l 21 [] (.qs [22, 23, 24] (.l 25 [24] (.l 26 [24] (.l 27 [24] (.l 28 [] (.qs [29, 30, 31, 32, 33] (.l 34 [] (.qs [35, 36, 37] .nil) .no)) .no) .no) .no) .no)) .no) .no) .no) .no)) .no) .no) (.l 13 [8] (.l 11 [8] (.l 14 [] (.qs [15, 16, 17] (.l 18 [17] (.l 19 [17] (.l 20 [17] (.l 21 [] (.qs [22, 23, 24] (.l 25 [24] (.l 26 [24] (.l 27 [24] (.l 28 [] (.qs [29, 30, 31, 32, 33] (.l 34 [] (.qs [35, 36, 37] .nil) .no)) .no) .no) .no) .no)) .no) .no) .no) .no)) .no) .no) .no)) .no)) .no) .no)) .no)) (by decide +kernel) ?_ | (refine CallOb.mk [] (whole_ok 1) rfl (ImpL.refl _) rfl rfl ?_; rintro _ _ ⟨rfl, rfl⟩) | (refine CallOb.mk [] (whole_ok 3) rfl (ImpL.refl _) rfl rfl ?_; rintro _ _ ⟨rfl, rfl⟩) | (refine CallOb.mk [] (whole_ok 0) rfl (ImpL.refl _) rfl rfl ?_; rintro _ _ ⟨rfl, rfl⟩) | (refine CallOb.mk [] (whole_ok (-1)) rfl (ImpL.refl _) rfl rfl ?_; rintro _ _ ⟨rfl, rfl⟩) | (refine CallOb.mk [] (row_ok' 1 1 2 3) rfl (ImpL.refl _) rfl rfl ?_; rintro _ _ ⟨rfl, rfl⟩) | (refine CallOb.mk [] (row_ok' 1 0 1 1) rfl (ImpL.refl _) rfl rfl ?_; rintro _ _ ⟨rfl, rfl⟩) | (refine CallOb.mk [] (row_ok' 1 0 2 2) rfl (ImpL.refl _) rfl rfl ?_; rintro _ _ ⟨rfl, rfl⟩) | (refine CallOb.mk [] cB rfl ⟨Imp.agg ⟨Imp.fulp rfl, Imp.fulp rfl, trivial⟩, Imp.fulp rfl, trivial⟩ rfl rfl ?_; rintro _ _ ⟨rfl, rfl⟩) | (refine CallOb.mk [] cO rfl ⟨Imp.agg ⟨Imp.fulp rfl, Imp.fulp rfl, trivial⟩, Imp.fulp rfl, Imp.fulp rfl, trivial⟩ rfl rfl ?_; rintro _ _ ⟨rfl, rfl⟩) | (refine CallOb.mk [] cI rfl ⟨Imp.agg ⟨Imp.fulp rfl, Imp.fulp rfl, trivial⟩, Imp.fulp rfl, trivial⟩ rfl rfl ?_; rintro _ _ ⟨rfl, rfl⟩) | (refine CallOb.mk [] cJ rfl ⟨Imp.agg ⟨Imp.fulp rfl, Imp.fulp rfl, trivial⟩, Imp.fulp rfl, trivial⟩ rfl rfl ?_; rintro _ _ ⟨rfl, rfl⟩) | (refine CallOb.mk [] cC rfl ⟨Imp.agg ⟨Imp.fulp rfl, Imp.fulp rfl, trivial⟩, Imp.agg ⟨Imp.refl _, Imp.nil _, Imp.refl _, Imp.refl _, Imp.nil _, Imp.nil _, trivial⟩, trivial⟩ rfl rfl ?_; rintro _ _ ⟨rfl, rfl⟩) | refine And.intro ?_ ?_ | fail)
  all_goals try (conv => whnf)
  all_goals first
    | exact Imp.bpl ⟨fun _ => rfl, fun _ => p0_nchk⟩
    | trace_state
end Go.Proofs.Ytdkfgecaejmanaa
