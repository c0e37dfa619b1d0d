/-
  A text of the proofs of this seat: lemmas that the statements' proofs use; it states nothing of the program by itself beyond the contracts that its theorems bear. Conditions: those that stand in each theorem. Its short name: N16.
-/
import Derived.Test.YtbbbmkjfmcnnfaaN15
import Derived.Test.YtbbbmkjfmcnnfaaIm
set_option linter.unusedVariables false
set_option linter.unusedSimpArgs false
namespace Go.Proofs.Ytbbbmkjfmcnnfaa
open Go.Sx Go.Np Go.Cv Go.Fq
set_option maxRecDepth 4000
set_option maxHeartbeats 2000000
def pl0 : Ln := ⟨1, 10, 1, [], []⟩
def pf0 : Fl := ⟨fname 0, [1, 0], 0, 1, 4, stv 8 4, 4, 2⟩
def pn0 : Nt := ⟨[lname 0, lname 1], [pl0, pl0], [pf0]⟩
theorem pn0_g : NetG 4 5 1 pn0 := by
  have e0 : lnErr pl0 = 0 := by decide +kernel
  refine ⟨⟨by decide, by decide, rfl, fun i hi => ?_, fun l hl => ?_, by decide, fun i hi => ?_, fun f hf => ?_⟩, by decide, by decide, fun l hl => ?_⟩
  · rcases (show i = 0 ∨ i = 1 by simp only [pn0, List.length_cons, List.length_nil] at hi; omega) with h | h <;> rw [h] <;> rfl
  · simp only [pn0, List.mem_cons, List.not_mem_nil, or_false, or_self] at hl
    rw [hl]; exact ⟨e0, rfl⟩
  · have : i = 0 := by simp only [pn0, List.length_cons, List.length_nil] at hi; omega
    rw [this]; rfl
  · simp only [pn0, List.mem_cons, List.not_mem_nil, or_false] at hf
    rw [hf]
    refine ⟨by decide, by decide, by decide, by decide, by decide, ?_, ⟨8, by decide, by decide, by decide, by decide, rfl, by decide, by decide⟩⟩
    intro i j hij hj
    have : i = 0 ∧ j = 1 := by simp only [pf0, List.length_cons, List.length_nil] at hj; omega
    rw [this.1, this.2]; decide
  · simp only [pn0, List.mem_cons, List.not_mem_nil, or_false, or_self] at hl
    rw [hl]; exact ⟨⟨e0, rfl⟩, by decide, by decide⟩
theorem pn0_chk : chkN pn0 = 0 := pn0_g.g.chk
theorem pn0_h0 : hop pn0 0 0 = 1 := by decide +kernel
theorem pn0_h1 : hop pn0 0 1 = 0 := by decide +kernel
theorem pn0_u : users pn0 0 = [0] := by decide +kernel
theorem pn0_f : FndP pn0 (fname 0) 0 := .inr ⟨0, rfl, by decide, rfl, fun j hj => by omega⟩
theorem pn0_s : (szR pn0 0).length = 1 := by
  unfold szR; rw [sf_len]; unfold szC
  rw [pn0_chk, if_neg (by decide)]; rfl
theorem w_a1 : WordP ⟨#[97, 45, 49]⟩ := by decide +kernel
theorem r_25 : rate [0, 100, 100, 100, 100, 100, 100, 100, 100] 8 100 = (25, 2, 0) := by
  have h1 : ValidP [0, 100, 100, 100, 100, 100, 100, 100, 100] 8 100 := by
    refine ⟨by decide, by decide, by decide, by decide, by decide, by decide, by decide, by decide +kernel, ?_, by decide +kernel, by decide +kernel⟩
    intro j hj
    have : j < 8 := by simp only [List.length_cons, List.length_nil] at hj; omega
    clear hj
    revert j; decide +kernel
  have h2 : FinP [0, 100, 100, 100, 100, 100, 100, 100, 100] := by unfold FinP INF; decide +kernel
  unfold rate
  rw [if_neg (fun h => h h1), if_neg (fun h => h h2)]
  decide +kernel
theorem pair_ok : Ctr Try.prog 37 [] [] (fun r o => o = [] ∧ r = ntv pn0) := by
  refine Ctr.imp ?_
  refine fn_intro (E := env 0) tys_ok rfl rfl rfl Try.func37 (by kernel_rfl) rfl (by kernel_rfl) ?_
  repeat' (conv => whnf
           first | refine LitOb.ful ?_ | refine CondOb.mk (fun _ => ?_) (fun _ => ?_) | refine ArOb.fits (by first | omega | (simp only [ints_len] at *; omega)) ?_ | refine LitOb.vec ?_ | refine MakeOb.vec ?_ | refine AllocOb.box ?_ | refine AggOb.mk (by decide +kernel) ?_ | refine ArU.fits (by first | omega | (simp only [ints_len] at *; omega)) ?_ | refine ArB.fits (by first | omega | (simp only [ints_len] at *; omega)) ?_ | refine CutOb.split ?_ | refine Gh.mk [] ?_ | refine And.intro (And.intro (by (simp only [List.length_append, List.length_take, List.length_drop, List.length_cons, List.length_nil, ints_len, List.length_replicate, lnl, fll, stl]; omega)) (by (simp only [List.length_append, List.length_take, List.length_drop, List.length_cons, List.length_nil, ints_len, List.length_replicate, lnl, fll, stl]; omega))) ?_ | refine ⟨_, _, rfl, ints_get (by first | omega | (simp only [ints_len] at *; omega)), ?_⟩ | refine ⟨_, _, (Int.toNat_of_nonneg (by first | omega | (simp only [ints_len] at *; omega))).symm, ints_get (by first | omega | (simp only [ints_len] at *; omega)), ?_⟩ | refine DrawOb.mk [] (.qs [1, 2, 5] (.l 0 [2, 1] (.l 3 [] (.l 4 [] (.l 6 [] (.qs [7] (.l 8 [] (.qs [9] (.l 10 [] .nil .no)) .no)) .no) (.l 6 [] (.l 4 [] (.qs [7] (.l 8 [] (.qs [9] (.l 10 [] .nil .no)) .no)) .no) .no)) (.l 4 [2, 1] (.l 3 [] (.l 6 [] (.qs [7] (.l 8 [] (.qs [9] (.l 10 [] .nil .no)) .no)) .no) (.l 6 [2, 1] (.qs [7] (.l 3 [] (.l 8 [] (.qs [9] (.l 10 [] .nil .no)) .no) (.l 8 [2, 1] (.l 3 [] (.qs [9] (.l 10 [] .nil .no)) .no) .no))) .no)) (.l 6 [2, 1] (.l 3 [] (.l 4 [] (.qs [7] (.l 8 [] (.qs [9] (.l 10 [] .nil .no)) .no)) .no) (.l 4 [2, 1] (.qs [7] (.l 3 [] (.l 8 [] (.qs [9] (.l 10 [] .nil .no)) .no) (.l 8 [2, 1] (.l 3 [] (.qs [9] (.l 10 [] .nil .no)) .no) .no))) .no)) .no))) (.l 3 [] (.l 0 [] (.l 4 [] (.l 6 [] (.qs [7] (.l 8 [] (.qs [9] (.l 10 [] .nil .no)) .no)) .no) (.l 6 [] (.l 4 [] (.qs [7] (.l 8 [] (.qs [9] (.l 10 [] .nil .no)) .no)) .no) .no)) (.l 4 [] (.l 0 [] (.l 6 [] (.qs [7] (.l 8 [] (.qs [9] (.l 10 [] .nil .no)) .no)) .no) (.l 6 [] (.qs [7] (.l 0 [] (.l 8 [] (.qs [9] (.l 10 [] .nil .no)) .no) (.l 8 [] (.l 0 [] (.qs [9] (.l 10 [] .nil .no)) .no) .no))) .no)) (.l 6 [] (.l 0 [] (.l 4 [] (.qs [7] (.l 8 [] (.qs [9] (.l 10 [] .nil .no)) .no)) .no) (.l 4 [] (.qs [7] (.l 0 [] (.l 8 [] (.qs [9] (.l 10 [] .nil .no)) .no) (.l 8 [] (.l 0 [] (.qs [9] (.l 10 [] .nil .no)) .no) .no))) .no)) .no))) (.l 4 [2, 1] (.l 0 [2, 1] (.l 3 [] (.l 6 [] (.qs [7] (.l 8 [] (.qs [9] (.l 10 [] .nil .no)) .no)) .no) (.l 6 [2, 1] (.qs [7] (.l 3 [] (.l 8 [] (.qs [9] (.l 10 [] .nil .no)) .no) (.l 8 [2, 1] (.l 3 [] (.qs [9] (.l 10 [] .nil .no)) .no) .no))) .no)) (.l 3 [] (.l 0 [] (.l 6 [] (.qs [7] (.l 8 [] (.qs [9] (.l 10 [] .nil .no)) .no)) .no) (.l 6 [] (.qs [7] (.l 0 [] (.l 8 [] (.qs [9] (.l 10 [] .nil .no)) .no) (.l 8 [] (.l 0 [] (.qs [9] (.l 10 [] .nil .no)) .no) .no))) .no)) (.l 6 [2, 1] (.qs [7] (.l 0 [2, 1] (.l 3 [] (.l 8 [] (.qs [9] (.l 10 [] .nil .no)) .no) (.l 8 [2, 1] (.l 3 [] (.qs [9] (.l 10 [] .nil .no)) .no) .no)) (.l 3 [] (.l 0 [] (.l 8 [] (.qs [9] (.l 10 [] .nil .no)) .no) (.l 8 [] (.l 0 [] (.qs [9] (.l 10 [] .nil .no)) .no) .no)) (.l 8 [2, 1] (.l 0 [2, 1] (.l 3 [] (.qs [9] (.l 10 [] .nil .no)) .no) (.l 3 [] (.l 0 [] (.qs [9] (.l 10 [] .nil .no)) .no) .no)) .no)))) .no))) (.l 6 [2, 1] (.l 0 [2, 1] (.l 3 [] (.l 4 [] (.qs [7] (.l 8 [] (.qs [9] (.l 10 [] .nil .no)) .no)) .no) (.l 4 [2, 1] (.qs [7] (.l 3 [] (.l 8 [] (.qs [9] (.l 10 [] .nil .no)) .no) (.l 8 [2, 1] (.l 3 [] (.qs [9] (.l 10 [] .nil .no)) .no) .no))) .no)) (.l 3 [] (.l 0 [] (.l 4 [] (.qs [7] (.l 8 [] (.qs [9] (.l 10 [] .nil .no)) .no)) .no) (.l 4 [] (.qs [7] (.l 0 [] (.l 8 [] (.qs [9] (.l 10 [] .nil .no)) .no) (.l 8 [] (.l 0 [] (.qs [9] (.l 10 [] .nil .no)) .no) .no))) .no)) (.l 4 [2, 1] (.qs [7] (.l 0 [2, 1] (.l 3 [] (.l 8 [] (.qs [9] (.l 10 [] .nil .no)) .no) (.l 8 [2, 1] (.l 3 [] (.qs [9] (.l 10 [] .nil .no)) .no) .no)) (.l 3 [] (.l 0 [] (.l 8 [] (.qs [9] (.l 10 [] .nil .no)) .no) (.l 8 [] (.l 0 [] (.qs [9] (.l 10 [] .nil .no)) .no) .no)) (.l 8 [2, 1] (.l 0 [2, 1] (.l 3 [] (.qs [9] (.l 10 [] .nil .no)) .no) (.l 3 [] (.l 0 [] (.qs [9] (.l 10 [] .nil .no)) .no) .no)) .no)))) .no))) .no))))) (by decide +kernel) ?_ | (refine CallOb.mk [] (Stair_ok 8 4 2 (by decide)) rfl (ImpL.refl _) rfl rfl ?_; rintro _ _ ⟨rfl, rfl⟩) | refine And.intro ?_ ?_ | fail)
  all_goals try (conv => whnf)
  all_goals first | rfl | exact Imp.agg ⟨Imp.fulp rfl, Imp.fulr ⟨⟨Imp.refl _, Imp.refl _, Imp.refl _, Imp.nil _, Imp.nil _, trivial⟩, ⟨Imp.refl _, Imp.refl _, Imp.refl _, Imp.nil _, Imp.nil _, trivial⟩, trivial⟩, Imp.fulr ⟨⟨Imp.refl _, Imp.fulp rfl, Imp.refl _, Imp.refl _, Imp.refl _, Imp.refl _, Imp.refl _, Imp.refl _, trivial⟩, trivial⟩, trivial⟩
theorem sane_ok : Ctr Try.prog 8 [] [] (fun r o => o = [] ∧ r = .bl true) := by
  refine Ctr.imp ?_
  refine fn_intro (E := env 0) tys_ok rfl rfl rfl Try.func8 (by kernel_rfl) rfl (by kernel_rfl) ?_
  have hn := pn0_g.nl
  have cC := Check_ok pn0 hn
  rw [pn0_chk] at cC
  have cR := Rate_ok [0, 100, 100, 100, 100, 100, 100, 100, 100] 8 100
  rw [r_25] at cR
  have c0 := Hop_ok pn0 hn 0 0
  rw [pn0_h0] at c0
  have c1 := Hop_ok pn0 hn 0 1
  rw [pn0_h1] at c1
  have cU := Users_ok pn0 hn (by decide) 0
  rw [pn0_u] at cU
  have cW := Word_ok ⟨#[97, 45, 49]⟩ (by decide)
  repeat' (conv => whnf
           first | (refine CondOb.mk (fun h' => ?_) (fun h' => ?_) <;> first | (exfalso; first | omega | exact h' w_a1 | (refine h' ?_; simp [conj]; done) | (refine absurd h' ?_; simp; done)) | skip) | refine LitOb.ful ?_ | (refine CondOb.mk (fun _ => ?_) (fun _ => ?_) <;> first | (exfalso; omega) | skip) | refine ArOb.fits (by first | omega | (simp only [ints_len] at *; omega)) ?_ | refine LitOb.vec ?_ | refine MakeOb.vec ?_ | refine AllocOb.box ?_ | refine AggOb.mk (by decide +kernel) ?_ | refine ArU.fits (by first | omega | (simp only [ints_len] at *; omega)) ?_ | refine ArB.fits (by first | omega | (simp only [ints_len] at *; omega)) ?_ | refine CutOb.split ?_ | refine Gh.mk [] ?_ | refine And.intro (And.intro (by (simp only [List.length_append, List.length_take, List.length_drop, List.length_cons, List.length_nil, ints_len, List.length_replicate, lnl, fll, stl]; omega)) (by (simp only [List.length_append, List.length_take, List.length_drop, List.length_cons, List.length_nil, ints_len, List.length_replicate, lnl, fll, stl]; omega))) ?_ | refine ⟨_, _, rfl, ints_get (by first | omega | (simp only [ints_len] at *; omega)), ?_⟩ | refine ⟨_, _, (Int.toNat_of_nonneg (by first | omega | (simp only [ints_len] at *; omega))).symm, ints_get (by first | omega | (simp only [ints_len] at *; omega)), ?_⟩ | (refine CallOb.mk [] (pair_ok) rfl (ImpL.refl _) rfl rfl ?_; rintro _ _ ⟨rfl, rfl⟩) | (refine CallOb.mk [] cC rfl (ImpL.refl _) rfl rfl ?_; rintro _ _ ⟨rfl, rfl⟩) | (refine CallOb.mk [] cR rfl ⟨Imp.agg ⟨Imp.fulp rfl, Imp.refl _, Imp.refl _, trivial⟩, trivial⟩ rfl rfl ?_; rintro _ _ ⟨rfl, rfl⟩) | (refine CallOb.mk [] c0 rfl (ImpL.refl _) rfl rfl ?_; rintro _ _ ⟨rfl, rfl⟩) | (refine CallOb.mk [] c1 rfl (ImpL.refl _) rfl rfl ?_; rintro _ _ ⟨rfl, rfl⟩) | (refine CallOb.mk [] cU rfl (ImpL.refl _) rfl rfl ?_; rintro _ _ ⟨rfl, rfl⟩) | (refine CallOb.mk [] cW rfl (ImpL.refl _) rfl rfl ?_; rintro _ _ ⟨rfl, rfl⟩) | (refine CallOb.mk [] (Find_ok pn0 hn (fname 0)) rfl (ImpL.refl _) rfl rfl ?_; rintro _ _ ⟨z, hz, rfl, rfl⟩; have hz := hz.uniq pn0_f; subst hz) | (refine CallOb.mk [] (Sizes_ok pn0 hn 0) rfl (ImpL.refl _) rfl rfl ?_; rintro _ _ ⟨rfl, rfl⟩; have := pn0_s) | refine And.intro ?_ ?_ | fail)
  all_goals try (conv => whnf)
  exact Imp.bpl ⟨fun _ => rfl, fun _ => w_a1⟩
end Go.Proofs.Ytbbbmkjfmcnnfaa
