/-
  A text of the proofs of this seat: lemmas that the statements' proofs use; it states nothing of the program by itself beyond the contracts that its theorems bear. Conditions: those that stand in each theorem. Its short name: H3.
-/
import Derived.Test.YtlnpbgjoccipaaaH2
import Derived.Test.YtlnpbgjoccipaaaK7
import Derived.Test.YtlnpbgjoccipaaaA5
set_option linter.unusedVariables false
set_option linter.unusedSimpArgs false
namespace Go.Proofs.Ytlnpbgjoccipaaa
open Go.Sx Go.Cv
set_option maxRecDepth 8000
set_option maxHeartbeats 2000000
theorem hValue_ok (c : C3) (t : Nat) (hc : VC c) (ht : t ≤ 1048576) : Ctr Try.prog 31 [crv c.1 c.2.1 c.2.2, i64 t] [] (fun r o => o = [] ∧ r = .tup [i64 (cv c t), i64 0]) := by
  have hv : ValidP c.1 c.2.1 c.2.2 := hc.valid
  have h1 := vc_bd hc ht
  refine Ctr.imp ?_
  refine fn_intro (E := env 0) tys_ok rfl rfl rfl Try.func31 (by kernel_rfl) rfl (by kernel_rfl) ?_
  repeat' (conv => whnf
           first | (refine CondOb.mk (fun _ => ?_) (fun _ => ?_) <;> first | (exfalso; omega) | skip) | refine ArOb.fits (by first | omega | (simp only [ints_len] at *; omega)) ?_ | refine LitOb.vec ?_ | refine MakeOb.vec ?_ | refine AllocOb.box ?_ | refine AsgOb.vec ?_ | refine AggOb.mk (by decide +kernel) ?_ | refine ArU.fits (by first | omega | (simp only [ints_len] at *; omega)) ?_ | refine ArB.fits (by first | omega | (simp only [ints_len] at *; omega)) ?_ | refine CutOb.split ?_ | refine Gh.mk [] ?_ | refine And.intro (And.intro (by (simp only [List.length_append, List.length_take, List.length_drop, List.length_cons, List.length_nil, ints_len, List.length_replicate, Go.Cv.vals_len]; omega)) (by (simp only [List.length_append, List.length_take, List.length_drop, List.length_cons, List.length_nil, ints_len, List.length_replicate, Go.Cv.vals_len]; omega))) ?_ | refine ⟨_, _, rfl, ints_get (by first | omega | (simp only [ints_len] at *; omega)), ?_⟩ | refine ⟨_, _, (Int.toNat_of_nonneg (by first | omega | (simp only [ints_len] at *; omega))).symm, ints_get (by first | omega | (simp only [ints_len] at *; omega)), ?_⟩ | (refine CallOb.mk [] (CValid_ok c.1 c.2.1 c.2.2 (by have := hc.n2; omega)) rfl (ImpL.refl _) rfl rfl ?_; rintro _ _ ⟨rfl, rfl⟩) | fail)
  all_goals try (conv => whnf)
  · exact absurd hv (by assumption)
  · refine CallOb.mk [] (WAt_ok c.1 c.2.1 c.2.2 t (bd_of hc) (by omega) (by omega)) rfl (ImpL.refl _) rfl rfl ?_
    rintro _ _ ⟨rfl, rfl⟩
    repeat' (conv => whnf
             first | (refine CondOb.mk (fun _ => ?_) (fun _ => ?_) <;> first | (exfalso; omega) | skip) | refine ArOb.fits (by first | omega | (simp only [ints_len] at *; omega)) ?_ | refine LitOb.vec ?_ | refine MakeOb.vec ?_ | refine AllocOb.box ?_ | refine AsgOb.vec ?_ | refine AggOb.mk (by decide +kernel) ?_ | refine ArU.fits (by first | omega | (simp only [ints_len] at *; omega)) ?_ | refine ArB.fits (by first | omega | (simp only [ints_len] at *; omega)) ?_ | refine CutOb.split ?_ | refine Gh.mk [] ?_ | refine And.intro (And.intro (by (simp only [List.length_append, List.length_take, List.length_drop, List.length_cons, List.length_nil, ints_len, List.length_replicate, Go.Cv.vals_len]; omega)) (by (simp only [List.length_append, List.length_take, List.length_drop, List.length_cons, List.length_nil, ints_len, List.length_replicate, Go.Cv.vals_len]; omega))) ?_ | refine ⟨_, _, rfl, ints_get (by first | omega | (simp only [ints_len] at *; omega)), ?_⟩ | refine ⟨_, _, (Int.toNat_of_nonneg (by first | omega | (simp only [ints_len] at *; omega))).symm, ints_get (by first | omega | (simp only [ints_len] at *; omega)), ?_⟩ | fail)
    all_goals try (conv => whnf)
    exact ⟨rfl, Imp.refl _⟩
theorem hop_case {f : C3} {m : Int} {x1 : List Int} {x2 x3 x4 : Int} (h : HopR f m (x1, x2, x3, x4)) : (∃ c : C3, VC c ∧ (∀ t, cv c t = hpf f m t) ∧ x1 = c.1 ∧ x2 = c.2.1 ∧ x3 = c.2.2 ∧ x4 = 0) ∨ (x1 = [] ∧ x2 = 0 ∧ x3 = 0 ∧ x4 = 3) := by
  rcases h with ⟨_, he⟩ | ⟨_, h⟩
  · cases he; exact .inr ⟨rfl, rfl, rfl, rfl⟩
  · rcases h with ⟨vs, p, q, h1, h2, he⟩ | ⟨_, he⟩
    · cases he; exact .inl ⟨(x1, p, x3), h2, h2.sound h1, rfl, rfl, rfl, rfl⟩
    · cases he; exact .inr ⟨rfl, rfl, rfl, rfl⟩
theorem SumL (f g : C3) (hf : CurveP 7 f) (hg : CurveP 3 g) : Ctr Try.prog 27 [crv f.1 f.2.1 f.2.2, crv g.1 g.2.1 g.2.2] [] (fun r o => ∃ c : C3, (VC c ∧ Leq f c) ∧ o = [] ∧ r = .tup [crv c.1 c.2.1 c.2.2, i64 0]) := by
  obtain ⟨a, na⟩ := nrm_exists hf.v
  obtain ⟨b, nb⟩ := nrm_exists hg.v
  have h1 := (curveP_nf hf na).1
  have h2 := (curveP_nf hg nb).1
  have hc := com_le16 h1 h2 na.1.p1 nb.1.p1
  refine (DSum f g a b hf.v hg.v na nb (by omega)).mono fun r o ⟨x1, x2, x3, x4, hx, h3, h4⟩ => ?_
  obtain ⟨c, vc, nc, he, hcv⟩ := mk_read hx (sum_small (sml_of hf na (by decide)) (sml_of hg nb (by decide)) (by decide) hx)
  cases he
  refine ⟨c, ⟨vc, Leq.mk fun t ht => ?_⟩, h3, h4⟩
  have hi := pls_infAt na.1 nb.1 vc hcv t
  have h5 : ¬infAt a.1 t ∧ ¬infAt b.1 t := ⟨fun h => ht (hi.2 (.inl h)), fun h => ht (hi.2 (.inr h))⟩
  refine ⟨fun h => h5.1 ((infAt_congr hf.v na.1 (fun t => na.cv t) t).2 h), ?_⟩
  rw [hcv, ← na.cv]
  unfold pls
  rw [if_neg (fun h => by rcases h with h | h; exact h5.1 h; exact h5.2 h)]
  have := nb.1.nonneg t
  have e : 0 ≤ cv b t := this
  omega
theorem Hops_ok (l : List Int) (hl : l.length ≤ 9223372036854775807) : Ctr Try.prog 6 [.psl 1 (ints l)] [] (fun r o => r = .bl true) := by
  refine fn_intro (E := env 0) tys_ok rfl rfl rfl Try.func6 (by kernel_rfl) rfl (by kernel_rfl) ?_
  have hL : (l.take 2000).length ≤ 2000 := by rw [List.length_take]; omega
  repeat' (conv => whnf
           first | (refine CondOb.mk (fun _ => ?_) (fun _ => ?_) <;> first | (exfalso; omega) | skip) | refine ArOb.fits (by first | omega | (simp only [ints_len] at *; omega)) ?_ | refine LitOb.vec ?_ | refine MakeOb.vec ?_ | refine AllocOb.box ?_ | refine AsgOb.vec ?_ | refine AggOb.mk (by decide +kernel) ?_ | refine ArU.fits (by first | omega | (simp only [ints_len] at *; omega)) ?_ | refine ArB.fits (by first | omega | (simp only [ints_len] at *; omega)) ?_ | refine CutOb.split ?_ | refine Gh.mk [] ?_ | refine And.intro (And.intro (by (simp only [List.length_append, List.length_take, List.length_drop, List.length_cons, List.length_nil, ints_len, List.length_replicate, Go.Cv.vals_len]; omega)) (by (simp only [List.length_append, List.length_take, List.length_drop, List.length_cons, List.length_nil, ints_len, List.length_replicate, Go.Cv.vals_len]; omega))) ?_ | refine ⟨_, _, rfl, ints_get (by first | omega | (simp only [ints_len] at *; omega)), ?_⟩ | refine ⟨_, _, (Int.toNat_of_nonneg (by first | omega | (simp only [ints_len] at *; omega))).symm, ints_get (by first | omega | (simp only [ints_len] at *; omega)), ?_⟩ | (refine CallOb.mk [] (New_ok l hl) rfl (ImpL.refl _) rfl rfl ?_; rintro _ _ ⟨rfl, rfl⟩) | fail)
  all_goals try (conv => whnf)
  refine CallOb.mk [0] (Ctr.impE (Curve_ok _ 0 hL (by omega) 7 (by omega) (by omega))) rfl (ImpL.refl _) rfl rfl ?_
  rintro _ _ ⟨⟨f, k1⟩, ⟨hf, hk1⟩, rfl, rfl⟩
  dsimp only at hf hk1 ⊢
  repeat' (conv => whnf
           first | (refine CondOb.mk (fun _ => ?_) (fun _ => ?_) <;> first | (exfalso; omega) | skip) | refine ArOb.fits (by first | omega | (simp only [ints_len] at *; omega)) ?_ | refine LitOb.vec ?_ | refine MakeOb.vec ?_ | refine AllocOb.box ?_ | refine AsgOb.vec ?_ | refine AggOb.mk (by decide +kernel) ?_ | refine ArU.fits (by first | omega | (simp only [ints_len] at *; omega)) ?_ | refine ArB.fits (by first | omega | (simp only [ints_len] at *; omega)) ?_ | refine CutOb.split ?_ | refine Gh.mk [] ?_ | refine And.intro (And.intro (by (simp only [List.length_append, List.length_take, List.length_drop, List.length_cons, List.length_nil, ints_len, List.length_replicate, Go.Cv.vals_len]; omega)) (by (simp only [List.length_append, List.length_take, List.length_drop, List.length_cons, List.length_nil, ints_len, List.length_replicate, Go.Cv.vals_len]; omega))) ?_ | refine ⟨_, _, rfl, ints_get (by first | omega | (simp only [ints_len] at *; omega)), ?_⟩ | refine ⟨_, _, (Int.toNat_of_nonneg (by first | omega | (simp only [ints_len] at *; omega))).symm, ints_get (by first | omega | (simp only [ints_len] at *; omega)), ?_⟩ | fail)
  all_goals try (conv => whnf)
  refine CallOb.mk [0] (N_ok _ k1 hL hk1 20 (by omega) (by omega)) rfl (ImpL.refl _) rfl rfl ?_
  rintro _ _ ⟨⟨v, k2⟩, ⟨m1, m2, hk2⟩, rfl, rfl⟩
  dsimp only at m1 m2 hk2 ⊢
  repeat' (conv => whnf
           first | (refine CondOb.mk (fun _ => ?_) (fun _ => ?_) <;> first | (exfalso; omega) | skip) | refine ArOb.fits (by first | omega | (simp only [ints_len] at *; omega)) ?_ | refine LitOb.vec ?_ | refine MakeOb.vec ?_ | refine AllocOb.box ?_ | refine AsgOb.vec ?_ | refine AggOb.mk (by decide +kernel) ?_ | refine ArU.fits (by first | omega | (simp only [ints_len] at *; omega)) ?_ | refine ArB.fits (by first | omega | (simp only [ints_len] at *; omega)) ?_ | refine CutOb.split ?_ | refine Gh.mk [] ?_ | refine And.intro (And.intro (by (simp only [List.length_append, List.length_take, List.length_drop, List.length_cons, List.length_nil, ints_len, List.length_replicate, Go.Cv.vals_len]; omega)) (by (simp only [List.length_append, List.length_take, List.length_drop, List.length_cons, List.length_nil, ints_len, List.length_replicate, Go.Cv.vals_len]; omega))) ?_ | refine ⟨_, _, rfl, ints_get (by first | omega | (simp only [ints_len] at *; omega)), ?_⟩ | refine ⟨_, _, (Int.toNat_of_nonneg (by first | omega | (simp only [ints_len] at *; omega))).symm, ints_get (by first | omega | (simp only [ints_len] at *; omega)), ?_⟩ | fail)
  all_goals try (conv => whnf)
  obtain ⟨m, hm⟩ : ∃ m, 1 + v = m := ⟨_, rfl⟩
  rw [hm]
  have hm1 : 1 ≤ m ∧ m ≤ 20 := by omega
  clear hm m1 m2
  have vf := hf.v
  have cH := spl4 (Hop_ok f vf m (by omega))
  have cL := spl4 (rLowered_ok f vf (by have := hf.n; omega) m (by omega))
  have cH2 := fun (d : Int) (h : 0 ≤ d ∧ d < 9) => spl4 (Hop_ok f vf (m + d) (by omega))
  refine DrawOb.cut [] (.qs [0, 1] (.l 2 [0] (.l 3 [] (.qs [4, 5, 6] (.l 7 [] (.l 8 [] (.qs [9] .nil) .no) .no)) (.l 7 [0] (.l 3 [] (.qs [4, 5, 6] (.l 8 [] (.qs [9] .nil) .no)) .no) .no)) (.l 7 [0] (.l 2 [0] (.l 3 [] (.qs [4, 5, 6] (.l 8 [] (.qs [9] .nil) .no)) .no) .no) .no))) (Y := C3 × Nat) (st := fun y => ⟨[(7, i64 0), (6, .ptr 2 0), (5, i64 m), (4, .ptr 1 0), (3, .ptr 0 0)], [src (l.take 2000) y.2, .box [.psl 1 (ints f.1), i64 f.2.1, i64 f.2.2], .box [.psl 1 (ints y.1.1), i64 y.1.2.1, i64 y.1.2.2]]⟩) (inv := fun y => (VC y.1 ∧ Leq f y.1) ∧ y.2 ≤ 2000) (by decide +kernel) ?_ ?_
  · repeat' (conv => whnf
             first | (refine CondOb.mk (fun _ => ?_) (fun _ => ?_) <;> first | (exfalso; omega) | skip) | refine ArOb.fits (by first | omega | (simp only [ints_len] at *; omega)) ?_ | refine LitOb.vec ?_ | refine MakeOb.vec ?_ | refine AllocOb.box ?_ | refine AsgOb.vec ?_ | refine AggOb.mk (by decide +kernel) ?_ | refine ArU.fits (by first | omega | (simp only [ints_len] at *; omega)) ?_ | refine ArB.fits (by first | omega | (simp only [ints_len] at *; omega)) ?_ | refine CutOb.split ?_ | refine Gh.mk [] ?_ | refine And.intro (And.intro (by (simp only [List.length_append, List.length_take, List.length_drop, List.length_cons, List.length_nil, ints_len, List.length_replicate, Go.Cv.vals_len]; omega)) (by (simp only [List.length_append, List.length_take, List.length_drop, List.length_cons, List.length_nil, ints_len, List.length_replicate, Go.Cv.vals_len]; omega))) ?_ | refine ⟨_, _, rfl, ints_get (by first | omega | (simp only [ints_len] at *; omega)), ?_⟩ | refine ⟨_, _, (Int.toNat_of_nonneg (by first | omega | (simp only [ints_len] at *; omega))).symm, ints_get (by first | omega | (simp only [ints_len] at *; omega)), ?_⟩ | refine And.intro ?_ ?_ | (refine CallOb.mk [0] (Ctr.impE (Curve_ok _ k2 hL hk2 3 (by omega) (by omega))) rfl (ImpL.refl _) rfl rfl ?_; rintro _ _ ⟨⟨g, k3⟩, ⟨hg, hk3⟩, rfl, rfl⟩; dsimp only at hg hk3 ⊢) | (refine CallOb.mk [] (SumL f g hf hg) rfl (ImpL.refl _) rfl rfl ?_; rintro _ _ ⟨c, ⟨vc, lc⟩, rfl, rfl⟩) | fail)
    all_goals try (conv => whnf)
    all_goals first
      | (refine ⟨(c, k3), [0, 1, 2], ⟨⟨vc, lc⟩, hk3⟩, ?_⟩; dsimp only; (refine Le.mk (by kernel_rfl) ?_ ?_ <;> repeat' (first | exact True.intro | refine And.intro ?_ ?_ | exact Imp.refl _ | exact Imp.any _ | exact Imp.num (by first | omega | simp only [ints_len]) | exact rfl | exact Imp.bl (by simp))); done)
      | trace_state
  · rintro ⟨g, k3⟩ ⟨⟨vg, lg⟩, hk3⟩
    dsimp only at vg lg hk3 ⊢
    have cG := spl4 (Hop_ok g vg m (by omega))
    repeat' (conv => whnf
             first | (refine CondOb.mk (fun _ => ?_) (fun _ => ?_) <;> first | (exfalso; omega) | skip) | refine ArOb.fits (by first | omega | (simp only [ints_len] at *; omega)) ?_ | refine LitOb.vec ?_ | refine MakeOb.vec ?_ | refine AllocOb.box ?_ | refine AsgOb.vec ?_ | refine AggOb.mk (by decide +kernel) ?_ | refine ArU.fits (by first | omega | (simp only [ints_len] at *; omega)) ?_ | refine ArB.fits (by first | omega | (simp only [ints_len] at *; omega)) ?_ | refine CutOb.split ?_ | refine Gh.mk [] ?_ | refine And.intro (And.intro (by (simp only [List.length_append, List.length_take, List.length_drop, List.length_cons, List.length_nil, ints_len, List.length_replicate, Go.Cv.vals_len]; omega)) (by (simp only [List.length_append, List.length_take, List.length_drop, List.length_cons, List.length_nil, ints_len, List.length_replicate, Go.Cv.vals_len]; omega))) ?_ | refine ⟨_, _, rfl, ints_get (by first | omega | (simp only [ints_len] at *; omega)), ?_⟩ | refine ⟨_, _, (Int.toNat_of_nonneg (by first | omega | (simp only [ints_len] at *; omega))).symm, ints_get (by first | omega | (simp only [ints_len] at *; omega)), ?_⟩ | fail)
    all_goals try (conv => whnf)
    refine CallOb.mk [] cH rfl (ImpL.refl _) rfl rfl ?_
    rintro _ _ ⟨x1, x2, x3, x4, hx, rfl, rfl⟩
    repeat' (conv => whnf
             first | (refine CondOb.mk (fun _ => ?_) (fun _ => ?_) <;> first | (exfalso; omega) | skip) | refine ArOb.fits (by first | omega | (simp only [ints_len] at *; omega)) ?_ | refine LitOb.vec ?_ | refine MakeOb.vec ?_ | refine AllocOb.box ?_ | refine AsgOb.vec ?_ | refine AggOb.mk (by decide +kernel) ?_ | refine ArU.fits (by first | omega | (simp only [ints_len] at *; omega)) ?_ | refine ArB.fits (by first | omega | (simp only [ints_len] at *; omega)) ?_ | refine CutOb.split ?_ | refine Gh.mk [] ?_ | refine And.intro (And.intro (by (simp only [List.length_append, List.length_take, List.length_drop, List.length_cons, List.length_nil, ints_len, List.length_replicate, Go.Cv.vals_len]; omega)) (by (simp only [List.length_append, List.length_take, List.length_drop, List.length_cons, List.length_nil, ints_len, List.length_replicate, Go.Cv.vals_len]; omega))) ?_ | refine ⟨_, _, rfl, ints_get (by first | omega | (simp only [ints_len] at *; omega)), ?_⟩ | refine ⟨_, _, (Int.toNat_of_nonneg (by first | omega | (simp only [ints_len] at *; omega))).symm, ints_get (by first | omega | (simp only [ints_len] at *; omega)), ?_⟩ | fail)
    all_goals try (conv => whnf)
    refine CallOb.mk [] cG rfl (ImpL.refl _) rfl rfl ?_
    rintro _ _ ⟨y1, y2, y3, y4, hy, rfl, rfl⟩
    repeat' (conv => whnf
             first | (refine CondOb.mk (fun _ => ?_) (fun _ => ?_) <;> first | (exfalso; omega) | skip) | refine ArOb.fits (by first | omega | (simp only [ints_len] at *; omega)) ?_ | refine LitOb.vec ?_ | refine MakeOb.vec ?_ | refine AllocOb.box ?_ | refine AsgOb.vec ?_ | refine AggOb.mk (by decide +kernel) ?_ | refine ArU.fits (by first | omega | (simp only [ints_len] at *; omega)) ?_ | refine ArB.fits (by first | omega | (simp only [ints_len] at *; omega)) ?_ | refine CutOb.split ?_ | refine Gh.mk [] ?_ | refine And.intro (And.intro (by (simp only [List.length_append, List.length_take, List.length_drop, List.length_cons, List.length_nil, ints_len, List.length_replicate, Go.Cv.vals_len]; omega)) (by (simp only [List.length_append, List.length_take, List.length_drop, List.length_cons, List.length_nil, ints_len, List.length_replicate, Go.Cv.vals_len]; omega))) ?_ | refine ⟨_, _, rfl, ints_get (by first | omega | (simp only [ints_len] at *; omega)), ?_⟩ | refine ⟨_, _, (Int.toNat_of_nonneg (by first | omega | (simp only [ints_len] at *; omega))).symm, ints_get (by first | omega | (simp only [ints_len] at *; omega)), ?_⟩ | fail)
    all_goals try (conv => whnf)
    refine DrawOb.cut [] (.qs [0, 1, 2] (.l 3 [0] (.qs [4] (.l 5 [] (.qs [6, 7, 8] (.l 9 [] (.l 10 [] (.qs [11] .nil) .no) .no)) (.l 9 [0] (.l 5 [] (.qs [6, 7, 8] (.l 10 [] (.qs [11] .nil) .no)) .no) .no))) (.l 9 [0] (.l 3 [0] (.qs [4] (.l 5 [] (.qs [6, 7, 8] (.l 10 [] (.qs [11] .nil) .no)) .no)) .no) .no))) (Y := List Int × Int × Int × Int) (st := fun z => ⟨[(13, i64 z.2.2.2), (12, .ptr 3 0), (11, i64 y4), (10, .ptr 2 0), (9, i64 x4), (8, .ptr 1 0), (7, i64 0), (5, i64 m), (4, .ptr 0 0)], [.box [.psl 1 (ints f.1), i64 f.2.1, i64 f.2.2], .box [.psl 1 (ints x1), i64 x2, i64 x3], .box [.psl 1 (ints y1), i64 y2, i64 y3], .box [.psl 1 (ints z.1), i64 z.2.1, i64 z.2.2.1]]⟩) (inv := fun z => ∃ d, (0 ≤ d ∧ d < 9) ∧ HopR f (m + d) z) (by decide +kernel) ?_ ?_
    · repeat' (conv => whnf
               first | (refine CondOb.mk (fun _ => ?_) (fun _ => ?_) <;> first | (exfalso; omega) | skip) | refine ArOb.fits (by first | omega | (simp only [ints_len] at *; omega)) ?_ | refine LitOb.vec ?_ | refine MakeOb.vec ?_ | refine AllocOb.box ?_ | refine AsgOb.vec ?_ | refine AggOb.mk (by decide +kernel) ?_ | refine ArU.fits (by first | omega | (simp only [ints_len] at *; omega)) ?_ | refine ArB.fits (by first | omega | (simp only [ints_len] at *; omega)) ?_ | refine CutOb.split ?_ | refine Gh.mk [] ?_ | refine And.intro (And.intro (by (simp only [List.length_append, List.length_take, List.length_drop, List.length_cons, List.length_nil, ints_len, List.length_replicate, Go.Cv.vals_len]; omega)) (by (simp only [List.length_append, List.length_take, List.length_drop, List.length_cons, List.length_nil, ints_len, List.length_replicate, Go.Cv.vals_len]; omega))) ?_ | refine ⟨_, _, rfl, ints_get (by first | omega | (simp only [ints_len] at *; omega)), ?_⟩ | refine ⟨_, _, (Int.toNat_of_nonneg (by first | omega | (simp only [ints_len] at *; omega))).symm, ints_get (by first | omega | (simp only [ints_len] at *; omega)), ?_⟩ | refine And.intro ?_ ?_ | (refine CallOb.mk [0] (N_ok _ k3 hL hk3 9 (by omega) (by omega)) rfl (ImpL.refl _) rfl rfl ?_; rintro _ _ ⟨⟨d, k4⟩, ⟨d1, d2, hk4⟩, rfl, rfl⟩; dsimp only at d1 d2 hk4 ⊢) | (refine CallOb.mk [] (cH2 d ⟨d1, d2⟩) rfl (ImpL.refl _) rfl rfl ?_; rintro _ _ ⟨z1, z2, z3, z4, hz, rfl, rfl⟩) | fail)
      all_goals try (conv => whnf)
      all_goals first
        | (refine ⟨(z1, z2, z3, z4), [1, 3, 4, 5], ⟨d, ⟨d1, d2⟩, hz⟩, ?_⟩; dsimp only; (refine Le.mk (by kernel_rfl) ?_ ?_ <;> repeat' (first | exact True.intro | refine And.intro ?_ ?_ | exact Imp.refl _ | exact Imp.any _ | exact Imp.num (by first | omega | simp only [ints_len]) | exact rfl | exact Imp.bl (by simp))); done)
        | trace_state
    · rintro ⟨z1, z2, z3, z4⟩ ⟨d, hd, hz⟩
      dsimp only at hz ⊢
      repeat' (conv => whnf
               first | (refine CondOb.mk (fun _ => ?_) (fun _ => ?_) <;> first | (exfalso; omega) | skip) | refine ArOb.fits (by first | omega | (simp only [ints_len] at *; omega)) ?_ | refine LitOb.vec ?_ | refine MakeOb.vec ?_ | refine AllocOb.box ?_ | refine AsgOb.vec ?_ | refine AggOb.mk (by decide +kernel) ?_ | refine ArU.fits (by first | omega | (simp only [ints_len] at *; omega)) ?_ | refine ArB.fits (by first | omega | (simp only [ints_len] at *; omega)) ?_ | refine CutOb.split ?_ | refine Gh.mk [] ?_ | refine And.intro (And.intro (by (simp only [List.length_append, List.length_take, List.length_drop, List.length_cons, List.length_nil, ints_len, List.length_replicate, Go.Cv.vals_len]; omega)) (by (simp only [List.length_append, List.length_take, List.length_drop, List.length_cons, List.length_nil, ints_len, List.length_replicate, Go.Cv.vals_len]; omega))) ?_ | refine ⟨_, _, rfl, ints_get (by first | omega | (simp only [ints_len] at *; omega)), ?_⟩ | refine ⟨_, _, (Int.toNat_of_nonneg (by first | omega | (simp only [ints_len] at *; omega))).symm, ints_get (by first | omega | (simp only [ints_len] at *; omega)), ?_⟩ | fail)
      all_goals try (conv => whnf)
      refine CallOb.mk [] cL rfl (ImpL.refl _) rfl rfl ?_
      rintro _ _ ⟨w1, w2, w3, w4, hw, rfl, rfl⟩
      have e := hx.uniq hw
      cases e
      have hxl : x1.length ≤ 1000000 := by
        rcases hop_case hx with ⟨c, vc, _, rfl, _⟩ | ⟨rfl, _⟩
        · have := vc.n2; omega
        · simp
      have cS := Same_ok x1 x1 x2 x3 x2 x3 hxl
      have c0 : cv f 0 ≤ 66 := hf.z
      have i0 : ¬infAt f.1 0 := fun h => by
        have := (vf.inf_iff (t := 0) (by omega)).2 h
        have e : cv f 0 = INF := this
        rw [e] at c0; simp only [INF] at c0; omega
      have cA0 := rAt_ok f 0 vf (by omega)
      have hp0 : hpf f m 1 = max 0 (cv f 0 - (m - 1)) := by unfold hpf; rw [if_neg (by decide), if_neg i0]
      have hn0 := cv_nonneg vf 0
      generalize cv f 0 = v0 at *
      rcases hop_case hx with ⟨c, vc, hc, rfl, rfl, rfl, rfl⟩ | ⟨rfl, rfl, rfl, rfl⟩
      · have cV := hValue_ok c 1 vc (by omega)
        rw [hc 1, hp0] at cV
        rcases hop_case hy with ⟨c2, vc2, hc2, rfl, rfl, rfl, rfl⟩ | ⟨rfl, rfl, rfl, rfl⟩
        all_goals rcases hop_case hz with ⟨c3, vc3, hc3, rfl, rfl, rfl, rfl⟩ | ⟨rfl, rfl, rfl, rfl⟩
        all_goals
          try have cA1 := DAtMost c c2 vc vc2 (hop_leq vf vg vc vc2 (by omega) (by omega) hc hc2 lg (Int.le_refl _))
          try have cA2 := DAtMost c3 c vc3 vc (hop_leq vf vf vc3 vc (by omega) (by omega) hc3 hc (Leq.refl f) (by omega))
          repeat' (conv => whnf
                   first | (refine CondOb.mk (fun _ => ?_) (fun _ => ?_) <;> first | (exfalso; omega) | skip) | refine ArOb.fits (by first | omega | (simp only [ints_len] at *; omega)) ?_ | refine LitOb.vec ?_ | refine MakeOb.vec ?_ | refine AllocOb.box ?_ | refine AsgOb.vec ?_ | refine AggOb.mk (by decide +kernel) ?_ | refine ArU.fits (by first | omega | (simp only [ints_len] at *; omega)) ?_ | refine ArB.fits (by first | omega | (simp only [ints_len] at *; omega)) ?_ | refine CutOb.split ?_ | refine Gh.mk [] ?_ | refine And.intro (And.intro (by (simp only [List.length_append, List.length_take, List.length_drop, List.length_cons, List.length_nil, ints_len, List.length_replicate, Go.Cv.vals_len]; omega)) (by (simp only [List.length_append, List.length_take, List.length_drop, List.length_cons, List.length_nil, ints_len, List.length_replicate, Go.Cv.vals_len]; omega))) ?_ | refine ⟨_, _, rfl, ints_get (by first | omega | (simp only [ints_len] at *; omega)), ?_⟩ | refine ⟨_, _, (Int.toNat_of_nonneg (by first | omega | (simp only [ints_len] at *; omega))).symm, ints_get (by first | omega | (simp only [ints_len] at *; omega)), ?_⟩ | (refine CallOb.mk [] cS rfl (ImpL.refl _) rfl rfl ?_; rintro _ _ ⟨rfl, rfl⟩) | (refine CallOb.mk [] cV rfl ⟨Imp.refl _, Imp.num rfl, trivial⟩ rfl rfl ?_; rintro _ _ ⟨rfl, rfl⟩) | (refine CallOb.mk [] cA0 rfl ⟨Imp.refl _, Imp.num rfl, trivial⟩ rfl rfl ?_; rintro _ _ ⟨rfl, rfl⟩) | (refine CallOb.mk [] cA1 rfl (ImpL.refl _) rfl rfl ?_; rintro _ _ ⟨rfl, rfl⟩) | (refine CallOb.mk [] cA2 rfl (ImpL.refl _) rfl rfl ?_; rintro _ _ ⟨rfl, rfl⟩) | (refine CallOb.mk [] (awake15_ok) rfl (ImpL.refl _) rfl rfl ?_; rintro _ _ ⟨rfl, rfl⟩) | fail)
          all_goals try (conv => whnf)
          all_goals first
            | rfl
            | (exfalso; omega)
            | (exfalso; rename_i h; exact h ⟨rfl, rfl, rfl⟩)
            | trace_state
      · repeat' (conv => whnf
                 first | (refine CondOb.mk (fun _ => ?_) (fun _ => ?_) <;> first | (exfalso; omega) | skip) | refine ArOb.fits (by first | omega | (simp only [ints_len] at *; omega)) ?_ | refine LitOb.vec ?_ | refine MakeOb.vec ?_ | refine AllocOb.box ?_ | refine AsgOb.vec ?_ | refine AggOb.mk (by decide +kernel) ?_ | refine ArU.fits (by first | omega | (simp only [ints_len] at *; omega)) ?_ | refine ArB.fits (by first | omega | (simp only [ints_len] at *; omega)) ?_ | refine CutOb.split ?_ | refine Gh.mk [] ?_ | refine And.intro (And.intro (by (simp only [List.length_append, List.length_take, List.length_drop, List.length_cons, List.length_nil, ints_len, List.length_replicate, Go.Cv.vals_len]; omega)) (by (simp only [List.length_append, List.length_take, List.length_drop, List.length_cons, List.length_nil, ints_len, List.length_replicate, Go.Cv.vals_len]; omega))) ?_ | refine ⟨_, _, rfl, ints_get (by first | omega | (simp only [ints_len] at *; omega)), ?_⟩ | refine ⟨_, _, (Int.toNat_of_nonneg (by first | omega | (simp only [ints_len] at *; omega))).symm, ints_get (by first | omega | (simp only [ints_len] at *; omega)), ?_⟩ | (refine CallOb.mk [] cS rfl (ImpL.refl _) rfl rfl ?_; rintro _ _ ⟨rfl, rfl⟩) | (refine CallOb.mk [] (awake15_ok) rfl (ImpL.refl _) rfl rfl ?_; rintro _ _ ⟨rfl, rfl⟩) | fail)
        all_goals try (conv => whnf)
        all_goals first
          | rfl
          | (exfalso; omega)
          | (exfalso; rename_i h; exact h ⟨rfl, rfl, rfl⟩)
          | trace_state
end Go.Proofs.Ytlnpbgjoccipaaa
