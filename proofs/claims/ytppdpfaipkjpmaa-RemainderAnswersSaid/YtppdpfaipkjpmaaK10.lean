/-
  A text of the proofs of this seat: lemmas that the statements' proofs use; it states nothing of the program by itself beyond the contracts that its theorems bear. Conditions: those that stand in each theorem. Its short name: K10.
-/
import Derived.Test.YtppdpfaipkjpmaaK9
import Derived.Test.YtppdpfaipkjpmaaPl
set_option linter.unusedVariables false
set_option linter.unusedSimpArgs false
namespace Go.Proofs.Ytppdpfaipkjpmaa
open Go.Sx Go.Cv
set_option maxRecDepth 4000
set_option maxHeartbeats 2000000
theorem gdiff_ok (f g : C3) (t : Nat) (hf : VC f) (hg : VC g) (ht : t ≤ 1048576) : Ctr Try.prog 31 [crv f.1 f.2.1 f.2.2, crv g.1 g.2.1 g.2.2, i64 t] [] (fun r o => o = [] ∧ r = i64 (lds f g t)) := by
  have h1 := vc_bd hf ht
  have h2 := vc_bd hg ht
  have e1 : cv f t = INF ↔ infAt f.1 t := hf.inf_iff ht
  have e2 : cv g t = INF ↔ infAt g.1 t := hg.inf_iff ht
  have hl : lds f g t = if cv g t = INF then 0 else if cv f t = INF then INF else max 0 (cv f t - cv g t) := by unfold lds; simp only [e1, e2]
  rw [hl]
  refine Ctr.imp ?_
  refine fn_intro (E := env 0) tys_ok rfl rfl rfl Try.func31 (by kernel_rfl) rfl (by kernel_rfl) ?_
  repeat' (conv => whnf
           first
           | (refine CondOb.mk (fun _ => ?_) (fun _ => ?_) <;> first | (exfalso; omega) | skip)
           | refine ArOb.fits (by first | omega | (simp only [ints_len] at *; omega)) ?_
           | refine LitOb.vec ?_
           | refine MakeOb.vec ?_
           | refine AllocOb.box ?_
           | refine AggOb.mk (by decide +kernel) ?_
           | refine ArU.fits (by first | omega | (simp only [ints_len] at *; omega)) ?_
           | refine ArB.fits (by first | omega | (simp only [ints_len] at *; omega)) ?_
           | refine CutOb.split ?_
           | refine Gh.mk [] ?_
           | refine And.intro (And.intro (by (simp only [List.length_append, List.length_take, List.length_drop, List.length_cons, List.length_nil, ints_len, List.length_replicate, Go.Cv.vals_len]; omega)) (by (simp only [List.length_append, List.length_take, List.length_drop, List.length_cons, List.length_nil, ints_len, List.length_replicate, Go.Cv.vals_len]; omega))) ?_
           | refine ⟨_, _, rfl, ints_get (by first | omega | (simp only [ints_len] at *; omega)), ?_⟩
           | refine ⟨_, _, (Int.toNat_of_nonneg (by first | omega | (simp only [ints_len] at *; omega))).symm, ints_get (by first | omega | (simp only [ints_len] at *; omega)), ?_⟩
           | refine DrawOb.mk [] (.qs [0, 1, 3, 4] (.l 2 [3] (.l 5 [] (.qs [6, 7] .nil) .no) .no)) (by decide +kernel) ?_
           | (refine CallOb.mk [] (rAt_ok f t hf ht) rfl (ImpL.refl _) rfl rfl ?_; rintro _ _ ⟨rfl, rfl⟩)
           | (refine CallOb.mk [] (rAt_ok g t hg ht) rfl (ImpL.refl _) rfl rfl ?_; rintro _ _ ⟨rfl, rfl⟩)
           | fail)
  all_goals try (conv => whnf)
  all_goals first
    | exact ⟨rfl, by rw [if_pos (by assumption)]; exact Imp.refl _⟩
    | exact ⟨rfl, by rw [if_neg (by assumption), if_pos (by assumption)]; exact Imp.refl _⟩
    | exact ⟨rfl, by rw [if_neg (by assumption), if_neg (by assumption)]; exact Imp.refl _⟩
theorem Value_ok (c : C3) (t : Nat) (hc : VC c) (ht : t ≤ 1048576) : Ctr Try.prog 32 [crv c.1 c.2.1 c.2.2, i64 t] [] (fun r o => o = [] ∧ r = .tup [i64 (cv c t), i64 0]) := by
  have hv : ValidP c.1 c.2.1 c.2.2 := hc.valid
  have h1 := vc_bd hc ht
  refine Ctr.imp ?_
  refine fn_intro (E := env 0) tys_ok rfl rfl rfl Try.func32 (by kernel_rfl) rfl (by kernel_rfl) ?_
  repeat' (conv => whnf
           first
           | (refine CondOb.mk (fun _ => ?_) (fun _ => ?_) <;> first | (exfalso; omega) | skip)
           | refine ArOb.fits (by first | omega | (simp only [ints_len] at *; omega)) ?_
           | refine LitOb.vec ?_
           | refine MakeOb.vec ?_
           | refine AllocOb.box ?_
           | refine AggOb.mk (by decide +kernel) ?_
           | refine ArU.fits (by first | omega | (simp only [ints_len] at *; omega)) ?_
           | refine ArB.fits (by first | omega | (simp only [ints_len] at *; omega)) ?_
           | refine CutOb.split ?_
           | refine Gh.mk [] ?_
           | refine And.intro (And.intro (by (simp only [List.length_append, List.length_take, List.length_drop, List.length_cons, List.length_nil, ints_len, List.length_replicate, Go.Cv.vals_len]; omega)) (by (simp only [List.length_append, List.length_take, List.length_drop, List.length_cons, List.length_nil, ints_len, List.length_replicate, Go.Cv.vals_len]; omega))) ?_
           | refine ⟨_, _, rfl, ints_get (by first | omega | (simp only [ints_len] at *; omega)), ?_⟩
           | refine ⟨_, _, (Int.toNat_of_nonneg (by first | omega | (simp only [ints_len] at *; omega))).symm, ints_get (by first | omega | (simp only [ints_len] at *; omega)), ?_⟩
           | (refine CallOb.mk [] (CValid_ok c.1 c.2.1 c.2.2 (by have := hc.n2; omega)) rfl (ImpL.refl _) rfl rfl ?_; rintro _ _ ⟨rfl, rfl⟩)
           | fail)
  all_goals try (conv => whnf)
  · exact absurd hv (by assumption)
  · refine CallOb.mk [] (WAt_ok c.1 c.2.1 c.2.2 t (bd_of hc) (by omega) (by omega)) rfl (ImpL.refl _) rfl rfl ?_
    rintro _ _ ⟨rfl, rfl⟩
    repeat' (conv => whnf
             first
             | (refine CondOb.mk (fun _ => ?_) (fun _ => ?_) <;> first | (exfalso; omega) | skip)
             | refine ArOb.fits (by first | omega | (simp only [ints_len] at *; omega)) ?_
             | refine LitOb.vec ?_
             | refine MakeOb.vec ?_
             | refine AllocOb.box ?_
             | refine AggOb.mk (by decide +kernel) ?_
             | refine ArU.fits (by first | omega | (simp only [ints_len] at *; omega)) ?_
             | refine ArB.fits (by first | omega | (simp only [ints_len] at *; omega)) ?_
             | refine CutOb.split ?_
             | refine Gh.mk [] ?_
             | refine And.intro (And.intro (by (simp only [List.length_append, List.length_take, List.length_drop, List.length_cons, List.length_nil, ints_len, List.length_replicate, Go.Cv.vals_len]; omega)) (by (simp only [List.length_append, List.length_take, List.length_drop, List.length_cons, List.length_nil, ints_len, List.length_replicate, Go.Cv.vals_len]; omega))) ?_
             | refine ⟨_, _, rfl, ints_get (by first | omega | (simp only [ints_len] at *; omega)), ?_⟩
             | refine ⟨_, _, (Int.toNat_of_nonneg (by first | omega | (simp only [ints_len] at *; omega))).symm, ints_get (by first | omega | (simp only [ints_len] at *; omega)), ?_⟩
             | fail)
    all_goals try (conv => whnf)
    exact ⟨rfl, Imp.refl _⟩
theorem Value_err (t : Nat) (ht : t ≤ 1048576) : Ctr Try.prog 32 [crv [] 0 0, i64 t] [] (fun r o => o = [] ∧ r = .tup [i64 0, i64 1]) := by
  have hv : ¬ValidP [] 0 0 := fun h => by simp only [ValidP] at h; simp at h
  refine Ctr.imp ?_
  refine fn_intro (E := env 0) tys_ok rfl rfl rfl Try.func32 (by kernel_rfl) rfl (by kernel_rfl) ?_
  repeat' (conv => whnf
           first
           | (refine CondOb.mk (fun _ => ?_) (fun _ => ?_) <;> first | (exfalso; omega) | skip)
           | refine ArOb.fits (by first | omega | (simp only [ints_len] at *; omega)) ?_
           | refine LitOb.vec ?_
           | refine MakeOb.vec ?_
           | refine AllocOb.box ?_
           | refine AggOb.mk (by decide +kernel) ?_
           | refine ArU.fits (by first | omega | (simp only [ints_len] at *; omega)) ?_
           | refine ArB.fits (by first | omega | (simp only [ints_len] at *; omega)) ?_
           | refine CutOb.split ?_
           | refine Gh.mk [] ?_
           | refine And.intro (And.intro (by (simp only [List.length_append, List.length_take, List.length_drop, List.length_cons, List.length_nil, ints_len, List.length_replicate, Go.Cv.vals_len]; omega)) (by (simp only [List.length_append, List.length_take, List.length_drop, List.length_cons, List.length_nil, ints_len, List.length_replicate, Go.Cv.vals_len]; omega))) ?_
           | refine ⟨_, _, rfl, ints_get (by first | omega | (simp only [ints_len] at *; omega)), ?_⟩
           | refine ⟨_, _, (Int.toNat_of_nonneg (by first | omega | (simp only [ints_len] at *; omega))).symm, ints_get (by first | omega | (simp only [ints_len] at *; omega)), ?_⟩
           | (refine CallOb.mk [] (CValid_ok [] 0 0 (by simp)) rfl (ImpL.refl _) rfl rfl ?_; rintro _ _ ⟨rfl, rfl⟩)
           | fail)
  all_goals try (conv => whnf)
  · exact ⟨rfl, Imp.refl _⟩
  · exact absurd hv (by assumption)
theorem stp_of {most : Nat} {f a : C3} (h : CurveP most f) (ha : NrmOf f a) (hm : most ≤ 6) : Stp a := by
  obtain ⟨h1, h2, h3, h4⟩ := curveP_nf h ha
  have n1 := ha.1.n1
  refine ⟨ha.1, h1, by omega, fun fa => ?_, fun fa t => ?_⟩
  · have := (h4 0 (by omega)).resolve_left (ha.1.noinf fa 0 (by omega))
    unfold cv; rw [val_lt (by omega)]; omega
  · rw [ha.cv, ha.cv]; exact h.s (fin_back h.v fa ha) t
end Go.Proofs.Ytppdpfaipkjpmaa
