/-
  A text of the proofs of this seat: lemmas that the statements' proofs use; it states nothing of the program by itself beyond the contracts that its theorems bear. Conditions: those that stand in each theorem. Its short name: X11.
-/
import Derived.Test.YtnlmmjmcackgjaaX1
set_option linter.unusedVariables false
set_option linter.unusedSimpArgs false
namespace Go.Proofs.Ytnlmmjmcackgjaa
open Go.Sx Go.Cv
set_option maxRecDepth 4000
set_option maxHeartbeats 2000000
/- a is a normal form of f -/
abbrev NmC (f a : C3) : Prop := VC a ∧ (∀ t, cv a t = cv f t) ∧ (FinC f → FinC a) ∧ NF (cv f) a.1 a.2.1 a.2.2
theorem CNormN (f : C3) (hf : VC f) : Ctr Try.prog 116 [crv f.1 f.2.1 f.2.2] [] (fun r o => ∃ a : C3, NmC f a ∧ o = [] ∧ r = .tup [crv a.1 a.2.1 a.2.2, i64 0]) :=
  (CNormal_ok f.1 f.2.1 f.2.2 (by have := hf.n2; omega)).mono (fun r o ⟨x, h1, h2, h3⟩ => by
    obtain ⟨x1, x2, x3, x4⟩ := x
    rcases h1 with ⟨he, p0, p1, e0, e1, h4, h5⟩ | ⟨h, _⟩
    · dsimp only at he e1 h5 h3
      subst he e1
      have e2 : p0 = f.2.1 := by omega
      subst e2
      obtain ⟨g1, g2⟩ := h5.vf hf
      refine ⟨(x1, p1, x3), ⟨g1, g2, fun ff => ?_, h5⟩, h2, h3⟩
      intro hi
      have h6 := g1.val_inf hi hi (t := x1.length - 1) (Nat.le_refl _)
      have h7 := cv_small hf (t := x1.length - 1) (by have := g1.n2; omega) (ff.not hf _)
      have h8 := g2 (x1.length - 1)
      unfold cv at h7
      rw [h6] at h8
      simp only [INF] at h8
      omega
    · exact absurd hf.valid h)
theorem pBoth_ok (f g : C3) (hf : VC f) (hg : VC g) (hcm : ∀ a b, NmC f a → NmC g b → com a b ≤ 120) : Ctr Try.prog 125 [crv f.1 f.2.1 f.2.2, crv g.1 g.2.1 g.2.2] [] (fun r o => ∃ y : C3 × C3, (NmC f y.1 ∧ NmC g y.2) ∧ o = [] ∧ r = .tup [crv y.1.1 y.1.2.1 y.1.2.2, crv y.2.1 y.2.2.1 y.2.2.2, i64 (com y.1 y.2), i64 0]) := by
  refine Ctr.impE ?_
  refine fn_intro (E := env 0) tys_ok rfl rfl rfl Try.func125 (by kernel_rfl) rfl (by kernel_rfl) ?_
  repeat' (conv => whnf
           first | (refine CondOb.mk (fun _ => ?_) (fun _ => ?_) <;> first | (exfalso; omega) | skip) | refine ArOb.fits (by first | omega | (simp only [ints_len] at *; omega)) ?_ | refine LitOb.vec ?_ | refine MakeOb.vec ?_ | refine AllocOb.box ?_ | refine AsgOb.vec ?_ | refine AggOb.mk (by decide +kernel) ?_ | refine ArU.fits (by first | omega | (simp only [ints_len] at *; omega)) ?_ | refine ArB.fits (by first | omega | (simp only [ints_len] at *; omega)) ?_ | refine CutOb.split ?_ | refine Gh.mk [] ?_ | refine And.intro (And.intro (by (simp only [List.length_append, List.length_take, List.length_drop, List.length_cons, List.length_nil, ints_len, List.length_replicate, lnl, fll, stl]; omega)) (by (simp only [List.length_append, List.length_take, List.length_drop, List.length_cons, List.length_nil, ints_len, List.length_replicate, lnl, fll, stl]; omega))) ?_ | refine ⟨_, _, rfl, ints_get (by first | omega | (simp only [ints_len] at *; omega)), ?_⟩ | refine ⟨_, _, (Int.toNat_of_nonneg (by first | omega | (simp only [ints_len] at *; omega))).symm, ints_get (by first | omega | (simp only [ints_len] at *; omega)), ?_⟩ | refine DrawOb.mk [] (.qs [0, 1, 2] (.l 3 [1] (.l 4 [] (.qs [5, 6] .nil) .no) .no)) (by decide +kernel) ?_ | fail)
  all_goals try (conv => whnf)
  refine CallOb.mk [] (CNormN f hf) rfl (ImpL.refl _) rfl rfl ?_
  rintro _ _ ⟨a, ha, rfl, rfl⟩
  repeat' (conv => whnf
           first | (refine CondOb.mk (fun _ => ?_) (fun _ => ?_) <;> first | (exfalso; omega) | skip) | refine ArOb.fits (by first | omega | (simp only [ints_len] at *; omega)) ?_ | refine LitOb.vec ?_ | refine MakeOb.vec ?_ | refine AllocOb.box ?_ | refine AsgOb.vec ?_ | refine AggOb.mk (by decide +kernel) ?_ | refine ArU.fits (by first | omega | (simp only [ints_len] at *; omega)) ?_ | refine ArB.fits (by first | omega | (simp only [ints_len] at *; omega)) ?_ | refine CutOb.split ?_ | refine Gh.mk [] ?_ | refine And.intro (And.intro (by (simp only [List.length_append, List.length_take, List.length_drop, List.length_cons, List.length_nil, ints_len, List.length_replicate, lnl, fll, stl]; omega)) (by (simp only [List.length_append, List.length_take, List.length_drop, List.length_cons, List.length_nil, ints_len, List.length_replicate, lnl, fll, stl]; omega))) ?_ | refine ⟨_, _, rfl, ints_get (by first | omega | (simp only [ints_len] at *; omega)), ?_⟩ | refine ⟨_, _, (Int.toNat_of_nonneg (by first | omega | (simp only [ints_len] at *; omega))).symm, ints_get (by first | omega | (simp only [ints_len] at *; omega)), ?_⟩ | refine DrawOb.mk [] (.qs [0, 1, 2] (.l 3 [1] (.l 4 [] (.qs [5, 6] .nil) .no) .no)) (by decide +kernel) ?_ | fail)
  all_goals try (conv => whnf)
  refine CallOb.mk [] (CNormN g hg) rfl (ImpL.refl _) rfl rfl ?_
  rintro _ _ ⟨b, hb, rfl, rfl⟩
  have hc := hcm a b ha hb
  have cC := Common_ok a.2.1 b.2.1 ha.1.p1 hb.1.p1 (by have := ha.1.p2; omega) (by have := hb.1.p2; omega)
  rw [show Nat.lcm a.2.1 b.2.1 = com a b from rfl] at cC
  repeat' (conv => whnf
           first | (refine CondOb.mk (fun _ => ?_) (fun _ => ?_) <;> first | (exfalso; omega) | skip) | refine ArOb.fits (by first | omega | (simp only [ints_len] at *; omega)) ?_ | refine LitOb.vec ?_ | refine MakeOb.vec ?_ | refine AllocOb.box ?_ | refine AsgOb.vec ?_ | refine AggOb.mk (by decide +kernel) ?_ | refine ArU.fits (by first | omega | (simp only [ints_len] at *; omega)) ?_ | refine ArB.fits (by first | omega | (simp only [ints_len] at *; omega)) ?_ | refine CutOb.split ?_ | refine Gh.mk [] ?_ | refine And.intro (And.intro (by (simp only [List.length_append, List.length_take, List.length_drop, List.length_cons, List.length_nil, ints_len, List.length_replicate, lnl, fll, stl]; omega)) (by (simp only [List.length_append, List.length_take, List.length_drop, List.length_cons, List.length_nil, ints_len, List.length_replicate, lnl, fll, stl]; omega))) ?_ | refine ⟨_, _, rfl, ints_get (by first | omega | (simp only [ints_len] at *; omega)), ?_⟩ | refine ⟨_, _, (Int.toNat_of_nonneg (by first | omega | (simp only [ints_len] at *; omega))).symm, ints_get (by first | omega | (simp only [ints_len] at *; omega)), ?_⟩ | refine DrawOb.mk [] (.qs [0, 1, 2] (.l 3 [1] (.l 4 [] (.qs [5, 6] .nil) .no) .no)) (by decide +kernel) ?_ | (refine CallOb.mk [] cC rfl (ImpL.refl _) rfl rfl ?_; rintro _ _ ⟨rfl, rfl⟩) | fail)
  all_goals try (conv => whnf)
  all_goals first
    | exact ⟨(a, b), ⟨ha, hb⟩, rfl, Imp.refl _⟩
    | trace_state
end Go.Proofs.Ytnlmmjmcackgjaa
