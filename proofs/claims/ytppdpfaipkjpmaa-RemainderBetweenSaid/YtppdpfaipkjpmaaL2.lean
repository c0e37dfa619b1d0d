/-
  A text of the proofs of this seat: lemmas that the statements' proofs use; it states nothing of the program by itself beyond the contracts that its theorems bear. Conditions: those that stand in each theorem. Its short name: L2.
-/
import Derived.Test.YtppdpfaipkjpmaaK5
set_option linter.unusedVariables false
set_option linter.unusedSimpArgs false
namespace Go.Proofs.Ytppdpfaipkjpmaa
open Go.Sx Go.Cv
set_option maxRecDepth 4000
set_option maxHeartbeats 4000000
theorem SameSelf (a : C3) (ha : VC a) : Ctr Try.prog 21 [crv a.1 a.2.1 a.2.2, crv a.1 a.2.1 a.2.2] [] (fun r o => o = [] ∧ r = .bl true) :=
  Ctr.imp ((Same_ok a.1 a.1 a.2.1 a.2.2 a.2.1 a.2.2 (by have := ha.n2; omega)).mono (fun r o ⟨h1, h2⟩ => ⟨h1, by rw [h2]; exact Imp.bpl ⟨fun _ => rfl, fun _ => ⟨rfl, rfl, rfl⟩⟩⟩))
theorem Between_ok (l : List Int) (at' : Int) (hl : l.length ≤ 9223372036854775807) : Ctr Try.prog 4 [.psl 1 (ints l), i64 at'] [] (fun r o => r = .bl true) := by
  refine fn_intro (E := env 0) tys_ok rfl rfl rfl Try.func4 (by kernel_rfl) rfl (by kernel_rfl) ?_
  have hL : (l.take 2000).length ≤ 2000 := by rw [List.length_take]; omega
  repeat' (conv => whnf
           first
           | (refine CondOb.mk (fun _ => ?_) (fun _ => ?_) <;> first | (exfalso; omega) | skip)
           | refine ArOb.fits (by first | omega | (simp only [ints_len] at *; omega)) ?_
           | refine CutOb.split ?_
           | refine Gh.mk [] ?_
           | refine And.intro (And.intro (by (simp only [List.length_append, List.length_take, List.length_drop, List.length_cons, List.length_nil, ints_len, List.length_replicate, Go.Cv.vals_len]; omega)) (by (simp only [List.length_append, List.length_take, List.length_drop, List.length_cons, List.length_nil, ints_len, List.length_replicate, Go.Cv.vals_len]; omega))) ?_
           | refine ⟨_, _, rfl, ints_get (by first | omega | (simp only [ints_len] at *; omega)), ?_⟩
           | refine ⟨_, _, (Int.toNat_of_nonneg (by first | omega | (simp only [ints_len] at *; omega))).symm, ints_get (by first | omega | (simp only [ints_len] at *; omega)), ?_⟩
           | refine DrawOb.mk [] (.qs [0, 1, 2, 3, 4, 6, 7] (.l 5 [6] (.l 8 [] (.qs [9, 10, 11] (.l 12 [] (.qs [13, 14] .nil) .no)) .no) .no)) (by decide +kernel) ?_
           | (refine CallOb.mk [] (New_ok l hl) rfl (ImpL.refl _) rfl rfl ?_; rintro _ _ ⟨rfl, rfl⟩)
           | fail)
  all_goals try (conv => whnf)
  refine CallOb.mk [0] (Ctr.impE (Curve_ok _ 0 hL (by omega) 6 (by omega) (by omega))) rfl (ImpL.refl _) rfl rfl ?_
  rintro _ _ ⟨⟨f, k1⟩, ⟨hf, hk1⟩, rfl, rfl⟩
  dsimp only at hf hk1 ⊢
  repeat' (conv => whnf
           first
           | (refine CondOb.mk (fun _ => ?_) (fun _ => ?_) <;> first | (exfalso; omega) | skip)
           | refine ArOb.fits (by first | omega | (simp only [ints_len] at *; omega)) ?_
           | refine CutOb.split ?_
           | refine Gh.mk [] ?_
           | refine And.intro (And.intro (by (simp only [List.length_append, List.length_take, List.length_drop, List.length_cons, List.length_nil, ints_len, List.length_replicate, Go.Cv.vals_len]; omega)) (by (simp only [List.length_append, List.length_take, List.length_drop, List.length_cons, List.length_nil, ints_len, List.length_replicate, Go.Cv.vals_len]; omega))) ?_
           | refine ⟨_, _, rfl, ints_get (by first | omega | (simp only [ints_len] at *; omega)), ?_⟩
           | refine ⟨_, _, (Int.toNat_of_nonneg (by first | omega | (simp only [ints_len] at *; omega))).symm, ints_get (by first | omega | (simp only [ints_len] at *; omega)), ?_⟩
           | refine DrawOb.mk [] (.qs [0, 1, 2, 3, 4, 6, 7] (.l 5 [6] (.l 8 [] (.qs [9, 10, 11] (.l 12 [] (.qs [13, 14] .nil) .no)) .no) .no)) (by decide +kernel) ?_
           | fail)
  all_goals try (conv => whnf)
  refine CallOb.mk [0] (Ctr.impE (Curve_ok _ k1 hL hk1 6 (by omega) (by omega))) rfl (ImpL.refl _) rfl rfl ?_
  rintro _ _ ⟨⟨g, k2⟩, ⟨hg, hk2⟩, rfl, rfl⟩
  dsimp only at hg hk2 ⊢
  have vf := hf.v
  have vg := hg.v
  repeat' (conv => whnf
           first
           | (refine CondOb.mk (fun _ => ?_) (fun _ => ?_) <;> first | (exfalso; omega) | skip)
           | refine ArOb.fits (by first | omega | (simp only [ints_len] at *; omega)) ?_
           | refine CutOb.split ?_
           | refine Gh.mk [] ?_
           | refine And.intro (And.intro (by (simp only [List.length_append, List.length_take, List.length_drop, List.length_cons, List.length_nil, ints_len, List.length_replicate, Go.Cv.vals_len]; omega)) (by (simp only [List.length_append, List.length_take, List.length_drop, List.length_cons, List.length_nil, ints_len, List.length_replicate, Go.Cv.vals_len]; omega))) ?_
           | refine ⟨_, _, rfl, ints_get (by first | omega | (simp only [ints_len] at *; omega)), ?_⟩
           | refine ⟨_, _, (Int.toNat_of_nonneg (by first | omega | (simp only [ints_len] at *; omega))).symm, ints_get (by first | omega | (simp only [ints_len] at *; omega)), ?_⟩
           | refine DrawOb.mk [] (.qs [0, 1, 2, 3, 4, 6, 7] (.l 5 [6] (.l 8 [] (.qs [9, 10, 11] (.l 12 [] (.qs [13, 14] .nil) .no)) .no) .no)) (by decide +kernel) ?_
           | (refine CallOb.mk [] (CFlat0) rfl (ImpL.refl _) rfl rfl ?_; rintro _ _ ⟨rfl, rfl⟩)
           | fail)
  all_goals try (conv => whnf)
  refine CallOb.mk [] (CNorm f vf) rfl (ImpL.refl _) rfl rfl ?_
  rintro _ _ ⟨n, hn, rfl, rfl⟩
  have vn := hn.1
  obtain ⟨n4, n5, n6, n7⟩ := curveP_nf hf hn
  have nfn := vn.p1
  have nln := vn.n2
  repeat' (conv => whnf
           first
           | (refine CondOb.mk (fun _ => ?_) (fun _ => ?_) <;> first | (exfalso; omega) | skip)
           | refine ArOb.fits (by first | omega | (simp only [ints_len] at *; omega)) ?_
           | refine CutOb.split ?_
           | refine Gh.mk [] ?_
           | refine And.intro (And.intro (by (simp only [List.length_append, List.length_take, List.length_drop, List.length_cons, List.length_nil, ints_len, List.length_replicate, Go.Cv.vals_len]; omega)) (by (simp only [List.length_append, List.length_take, List.length_drop, List.length_cons, List.length_nil, ints_len, List.length_replicate, Go.Cv.vals_len]; omega))) ?_
           | refine ⟨_, _, rfl, ints_get (by first | omega | (simp only [ints_len] at *; omega)), ?_⟩
           | refine ⟨_, _, (Int.toNat_of_nonneg (by first | omega | (simp only [ints_len] at *; omega))).symm, ints_get (by first | omega | (simp only [ints_len] at *; omega)), ?_⟩
           | refine DrawOb.mk [] (.qs [0, 1, 2, 3, 4, 6, 7] (.l 5 [6] (.l 8 [] (.qs [9, 10, 11] (.l 12 [] (.qs [13, 14] .nil) .no)) .no) .no)) (by decide +kernel) ?_
           | fail)
  all_goals try (conv => whnf)
  refine CallOb.mk [] (spl4 (CRest f exZ vf exZ_v)) rfl (ImpL.refl _) rfl rfl ?_
  rintro _ _ ⟨x1, x2, x3, x4, ⟨a, b, ha, hb, hz⟩, rfl, rfl⟩
  have e1 : a = n := ha.uniq hn
  have e2 : b = exZ := hb.uniq ⟨exZ_v, exZ_nf'⟩
  subst e1 e2
  have hcz : com a exZ ≤ 120 := by
    have := com_le16 (a := a) (b := exZ) n4 (by decide) nfn (by decide)
    omega
  have hx : (x1, x2, x3, x4) = (a.1, (a.2.1 : Int), a.2.2, (0 : Int)) := by
    rcases hz with ⟨h, _⟩ | ⟨_, h⟩
    · omega
    · rw [dif_zero vn, rmx_self (cv_nonneg vn) vn.mono'] at h
      exact h.uniq (mk_self vn ha.self)
  cases hx
  repeat' (conv => whnf
           first
           | (refine CondOb.mk (fun _ => ?_) (fun _ => ?_) <;> first | (exfalso; omega) | skip)
           | refine ArOb.fits (by first | omega | (simp only [ints_len] at *; omega)) ?_
           | refine CutOb.split ?_
           | refine Gh.mk [] ?_
           | refine And.intro (And.intro (by (simp only [List.length_append, List.length_take, List.length_drop, List.length_cons, List.length_nil, ints_len, List.length_replicate, Go.Cv.vals_len]; omega)) (by (simp only [List.length_append, List.length_take, List.length_drop, List.length_cons, List.length_nil, ints_len, List.length_replicate, Go.Cv.vals_len]; omega))) ?_
           | refine ⟨_, _, rfl, ints_get (by first | omega | (simp only [ints_len] at *; omega)), ?_⟩
           | refine ⟨_, _, (Int.toNat_of_nonneg (by first | omega | (simp only [ints_len] at *; omega))).symm, ints_get (by first | omega | (simp only [ints_len] at *; omega)), ?_⟩
           | refine DrawOb.mk [] (.qs [0, 1, 2, 3, 4, 6, 7] (.l 5 [6] (.l 8 [] (.qs [9, 10, 11] (.l 12 [] (.qs [13, 14] .nil) .no)) .no) .no)) (by decide +kernel) ?_
           | fail)
  all_goals try (conv => whnf)
  refine CallOb.mk [] (spl4 (CAbove f exZ vf exZ_v)) rfl (ImpL.refl _) rfl rfl ?_
  rintro _ _ ⟨x1, x2, x3, x4, ⟨a', b', ha', hb', hx0⟩, rfl, rfl⟩
  have e1 : a' = a := ha'.uniq ha
  have e2 : b' = exZ := hb'.uniq ⟨exZ_v, exZ_nf'⟩
  subst e1 e2
  have hx : (x1, x2, x3, x4) = (a'.1, (a'.2.1 : Int), a'.2.2, (0 : Int)) := by
    rcases hx0 with ⟨h, _⟩ | ⟨_, h⟩
    · omega
    · rcases h with ⟨h, _⟩ | ⟨_, h⟩
      · refine absurd ⟨by decide, fun _ => ?_⟩ h
        have := Int.mul_nonneg vn.q0 (Int.natCast_nonneg (com a' exZ / a'.2.1))
        unfold drf
        simp only [exZ] at this ⊢
        omega
      · rw [amn_zero vn] at h
        exact h.uniq (mk_self vn ha.self)
  cases hx
  repeat' (conv => whnf
           first
           | (refine CondOb.mk (fun _ => ?_) (fun _ => ?_) <;> first | (exfalso; omega) | skip)
           | refine ArOb.fits (by first | omega | (simp only [ints_len] at *; omega)) ?_
           | refine CutOb.split ?_
           | refine Gh.mk [] ?_
           | refine And.intro (And.intro (by (simp only [List.length_append, List.length_take, List.length_drop, List.length_cons, List.length_nil, ints_len, List.length_replicate, Go.Cv.vals_len]; omega)) (by (simp only [List.length_append, List.length_take, List.length_drop, List.length_cons, List.length_nil, ints_len, List.length_replicate, Go.Cv.vals_len]; omega))) ?_
           | refine ⟨_, _, rfl, ints_get (by first | omega | (simp only [ints_len] at *; omega)), ?_⟩
           | refine ⟨_, _, (Int.toNat_of_nonneg (by first | omega | (simp only [ints_len] at *; omega))).symm, ints_get (by first | omega | (simp only [ints_len] at *; omega)), ?_⟩
           | refine DrawOb.mk [] (.qs [0, 1, 2, 3, 4, 6, 7] (.l 5 [6] (.l 8 [] (.qs [9, 10, 11] (.l 12 [] (.qs [13, 14] .nil) .no)) .no) .no)) (by decide +kernel) ?_
           | fail)
  all_goals try (conv => whnf)
  have vx := vn
  repeat' (conv => whnf
           first
           | (refine CondOb.mk (fun _ => ?_) (fun _ => ?_) <;> first | (exfalso; omega) | skip)
           | refine ArOb.fits (by first | omega | (simp only [ints_len] at *; omega)) ?_
           | refine CutOb.split ?_
           | refine Gh.mk [] ?_
           | refine And.intro (And.intro (by (simp only [List.length_append, List.length_take, List.length_drop, List.length_cons, List.length_nil, ints_len, List.length_replicate, Go.Cv.vals_len]; omega)) (by (simp only [List.length_append, List.length_take, List.length_drop, List.length_cons, List.length_nil, ints_len, List.length_replicate, Go.Cv.vals_len]; omega))) ?_
           | refine ⟨_, _, rfl, ints_get (by first | omega | (simp only [ints_len] at *; omega)), ?_⟩
           | refine ⟨_, _, (Int.toNat_of_nonneg (by first | omega | (simp only [ints_len] at *; omega))).symm, ints_get (by first | omega | (simp only [ints_len] at *; omega)), ?_⟩
           | refine DrawOb.mk [] (.qs [0, 1, 2, 3, 4, 6, 7] (.l 5 [6] (.l 8 [] (.qs [9, 10, 11] (.l 12 [] (.qs [13, 14] .nil) .no)) .no) .no)) (by decide +kernel) ?_
           | (refine CallOb.mk [] (SameSelf a' vx) rfl (ImpL.refl _) rfl rfl ?_; rintro _ _ ⟨rfl, rfl⟩)
           | fail)
  all_goals try (conv => whnf)
  obtain ⟨b, hbn⟩ : ∃ b, NrmOf g b := by
    obtain ⟨vs, p, q, h1, _⟩ := nf_exists vg.p1 vg.per
    exact ⟨(vs, p, q), (h1.vf vg).1, h1⟩
  obtain ⟨b4, b5, b6, b7⟩ := curveP_nf hg hbn
  have vb := hbn.1
  have hcm := com_le16 (a := a') (b := b) n4 b4 nfn vb.p1
  refine CallOb.mk [] (spl4 (CRest f g vf vg)) rfl (ImpL.refl _) rfl rfl ?_
  rintro _ _ ⟨x1, x2, x3, x4, ⟨a2, b2, ha2, hb2, hx⟩, rfl, rfl⟩
  have e1 : a2 = a' := ha2.uniq ha
  have e2 : b2 = b := hb2.uniq hbn
  subst e1 e2
  have hx : MkP (rmx (dif a2 b2)) (x1, x2, x3, x4) := by
    rcases hx with ⟨hh, _⟩ | ⟨_, hh⟩
    · omega
    · exact hh
  repeat' (conv => whnf
           first
           | (refine CondOb.mk (fun _ => ?_) (fun _ => ?_) <;> first | (exfalso; omega) | skip)
           | refine ArOb.fits (by first | omega | (simp only [ints_len] at *; omega)) ?_
           | refine CutOb.split ?_
           | refine Gh.mk [] ?_
           | refine And.intro (And.intro (by (simp only [List.length_append, List.length_take, List.length_drop, List.length_cons, List.length_nil, ints_len, List.length_replicate, Go.Cv.vals_len]; omega)) (by (simp only [List.length_append, List.length_take, List.length_drop, List.length_cons, List.length_nil, ints_len, List.length_replicate, Go.Cv.vals_len]; omega))) ?_
           | refine ⟨_, _, rfl, ints_get (by first | omega | (simp only [ints_len] at *; omega)), ?_⟩
           | refine ⟨_, _, (Int.toNat_of_nonneg (by first | omega | (simp only [ints_len] at *; omega))).symm, ints_get (by first | omega | (simp only [ints_len] at *; omega)), ?_⟩
           | refine DrawOb.mk [] (.qs [0, 1, 2, 3, 4, 6, 7] (.l 5 [6] (.l 8 [] (.qs [9, 10, 11] (.l 12 [] (.qs [13, 14] .nil) .no)) .no) .no)) (by decide +kernel) ?_
           | fail)
  all_goals try (conv => whnf)
  refine CallOb.mk [] (spl4 (CAbove f g vf vg)) rfl (ImpL.refl _) rfl rfl ?_
  rintro _ _ ⟨y1, y2, y3, y4, ⟨a3, b3, ha3, hb3, hy⟩, rfl, rfl⟩
  have e1 : a3 = a2 := ha3.uniq ha2
  have e2 : b3 = b2 := hb3.uniq hb2
  subst e1 e2
  have hy : AbvR a3 b3 (y1, y2, y3, y4) := by
    rcases hy with ⟨hh, _⟩ | ⟨_, hh⟩
    · omega
    · exact hh
  have hye : y4 = 0 ∨ y4 = 3 := by
    rcases hy with ⟨_, hy⟩ | ⟨_, hy⟩ <;> (rcases hy with ⟨_, _, _, _, _, h⟩ | ⟨_, h⟩ <;> (cases h; simp))
  rcases hx with ⟨vs, p, q, hnf, hvf, hxe⟩ | ⟨hno, hxe⟩ <;> cases hxe
  · have hr : ∀ t, cv (x1, p, x3) t = rmx (dif a3 b3) t := hvf.sound hnf
    have hnr : NrmOf (x1, p, x3) (x1, p, x3) := ⟨hvf, by rw [funext hr]; exact hnf⟩
    repeat' (conv => whnf
             first
             | (refine CondOb.mk (fun _ => ?_) (fun _ => ?_) <;> first | (exfalso; omega) | skip)
             | refine ArOb.fits (by first | omega | (simp only [ints_len] at *; omega)) ?_
             | refine CutOb.split ?_
             | refine And.intro (And.intro (by (simp only [List.length_append, List.length_take, List.length_drop, List.length_cons, List.length_nil, ints_len, List.length_replicate, Go.Cv.vals_len]; omega)) (by (simp only [List.length_append, List.length_take, List.length_drop, List.length_cons, List.length_nil, ints_len, List.length_replicate, Go.Cv.vals_len]; omega))) ?_
             | refine ⟨_, _, rfl, ints_get (by first | omega | (simp only [ints_len] at *; omega)), ?_⟩
             | refine ⟨_, _, (Int.toNat_of_nonneg (by first | omega | (simp only [ints_len] at *; omega))).symm, ints_get (by first | omega | (simp only [ints_len] at *; omega)), ?_⟩
             | refine DrawOb.mk [] (.qs [0, 1, 2, 3, 4, 6, 7] (.l 5 [6] (.l 8 [] (.qs [9, 10, 11] (.l 12 [] (.qs [13, 14] .nil) .no)) .no) .no)) (by decide +kernel) ?_
             | fail)
    all_goals try (conv => whnf)
    · have hy0 : y4 = 0 := by assumption
      obtain ⟨c, vc, hyc, hcc⟩ : ∃ c : C3, VC c ∧ (y1, y2, y3, y4) = (c.1, (c.2.1 : Int), c.2.2, (0 : Int)) ∧ ∀ t, cv c t ≤ rmx (dif a3 b3) t := by
        rcases hy with ⟨_, hy⟩ | ⟨hyf, hy⟩
        · obtain ⟨c, h1, _, h2, h3⟩ := mk_read hy hy0
          exact ⟨c, h1, h2, fun t => by rw [h3]; exact rmx_nonneg _ _⟩
        · obtain ⟨c, h1, _, h2, h3⟩ := mk_read hy hy0
          exact ⟨c, h1, h2, fun t => by rw [h3]; exact amn_le_rmx vn vb hyf.1 hyf.2 t⟩
      cases hyc
      refine .mk [] ?_
      refine CallOb.mk [] (AtMost_ok c (x1, p, x3) vc hvf) rfl (ImpL.refl _) rfl rfl ?_
      rintro _ _ ⟨rfl, rfl⟩
      have hat : AtMostP c (x1, p, x3) := atMost_of vc hvf (by have := com_le (f := c) (g := (x1, p, x3)) vc hvf; omega) (fun t => by rw [hr]; exact hcc t)
      repeat' (conv => whnf
               first
               | (refine CondOb.mk (fun _ => ?_) (fun _ => ?_) <;> first | (exfalso; omega) | skip)
               | refine ArOb.fits (by first | omega | (simp only [ints_len] at *; omega)) ?_
               | refine CutOb.split ?_
               | refine Gh.mk [] ?_
               | refine And.intro (And.intro (by (simp only [List.length_append, List.length_take, List.length_drop, List.length_cons, List.length_nil, ints_len, List.length_replicate, Go.Cv.vals_len]; omega)) (by (simp only [List.length_append, List.length_take, List.length_drop, List.length_cons, List.length_nil, ints_len, List.length_replicate, Go.Cv.vals_len]; omega))) ?_
               | refine ⟨_, _, rfl, ints_get (by first | omega | (simp only [ints_len] at *; omega)), ?_⟩
               | refine ⟨_, _, (Int.toNat_of_nonneg (by first | omega | (simp only [ints_len] at *; omega))).symm, ints_get (by first | omega | (simp only [ints_len] at *; omega)), ?_⟩
               | refine DrawOb.mk [] (.qs [0, 1, 2, 3, 4, 6, 7] (.l 5 [6] (.l 8 [] (.qs [9, 10, 11] (.l 12 [] (.qs [13, 14] .nil) .no)) .no) .no)) (by decide +kernel) ?_
               | fail)
      all_goals try (conv => whnf)
      · exact absurd hat (by assumption)
      refine CallOb.mk [] (spl4 (CSum (x1, p, x3) g hvf vg)) rfl (ImpL.refl _) rfl rfl ?_
      rintro _ _ ⟨z1, z2, z3, z4, ⟨a4, b4', ha4, hb4, hz4⟩, rfl, rfl⟩
      have e1 : a4 = (x1, p, x3) := ha4.uniq hnr
      have e2 : b4' = b3 := hb4.uniq hbn
      subst e1 e2
      rcases hz4 with ⟨_, hze⟩ | ⟨_, hz4⟩
      · cases hze
        repeat' (conv => whnf
                 first
                 | (refine CondOb.mk (fun _ => ?_) (fun _ => ?_) <;> first | (exfalso; omega) | skip)
                 | refine ArOb.fits (by first | omega | (simp only [ints_len] at *; omega)) ?_
                 | refine CutOb.split ?_
                 | refine Gh.mk [] ?_
                 | refine And.intro (And.intro (by (simp only [List.length_append, List.length_take, List.length_drop, List.length_cons, List.length_nil, ints_len, List.length_replicate, Go.Cv.vals_len]; omega)) (by (simp only [List.length_append, List.length_take, List.length_drop, List.length_cons, List.length_nil, ints_len, List.length_replicate, Go.Cv.vals_len]; omega))) ?_
                 | refine ⟨_, _, rfl, ints_get (by first | omega | (simp only [ints_len] at *; omega)), ?_⟩
                 | refine ⟨_, _, (Int.toNat_of_nonneg (by first | omega | (simp only [ints_len] at *; omega))).symm, ints_get (by first | omega | (simp only [ints_len] at *; omega)), ?_⟩
                 | refine DrawOb.mk [] (.qs [0, 1, 2, 3, 4, 6, 7] (.l 5 [6] (.l 8 [] (.qs [9, 10, 11] (.l 12 [] (.qs [13, 14] .nil) .no)) .no) .no)) (by decide +kernel) ?_
                 | (refine CallOb.mk [] (Mod_ok at' 2000 (by omega) (by omega)) rfl (ImpL.refl _) rfl rfl ?_; rintro _ _ ⟨rfl, rfl⟩)
                 | (refine CallOb.mk [] (awake_ok) rfl (ImpL.refl _) rfl rfl ?_; rintro _ _ ⟨rfl, rfl⟩)
                 | fail)
        all_goals try (conv => whnf)
        all_goals first
          | rfl
          | (exfalso; omega)
      · rcases hz4 with ⟨vs2, p2, q2, hnf2, hvf2, hze⟩ | ⟨_, hze⟩ <;> cases hze
        · have hz2 : ∀ t, cv (z1, p2, z3) t = pls (x1, p, x3) b4' t := hvf2.sound hnf2
          have hmd := md_bd (x := at') (n := 2000) (by omega)
          obtain ⟨tt, htt⟩ : ∃ tt : Nat, md at' 2000 = tt := ⟨(md at' 2000).toNat, by omega⟩
          have hge : cv f tt ≤ cv (z1, p2, z3) tt := by
            rw [hz2, ← ha.cv]
            exact back_ge vn vb hvf hr (by omega)
          repeat' (conv => whnf
                   first
                   | (refine CondOb.mk (fun _ => ?_) (fun _ => ?_) <;> first | (exfalso; omega) | skip)
                   | refine ArOb.fits (by first | omega | (simp only [ints_len] at *; omega)) ?_
                   | refine CutOb.split ?_
                   | refine Gh.mk [] ?_
                   | refine And.intro (And.intro (by (simp only [List.length_append, List.length_take, List.length_drop, List.length_cons, List.length_nil, ints_len, List.length_replicate, Go.Cv.vals_len]; omega)) (by (simp only [List.length_append, List.length_take, List.length_drop, List.length_cons, List.length_nil, ints_len, List.length_replicate, Go.Cv.vals_len]; omega))) ?_
                   | refine ⟨_, _, rfl, ints_get (by first | omega | (simp only [ints_len] at *; omega)), ?_⟩
                   | refine ⟨_, _, (Int.toNat_of_nonneg (by first | omega | (simp only [ints_len] at *; omega))).symm, ints_get (by first | omega | (simp only [ints_len] at *; omega)), ?_⟩
                   | refine DrawOb.mk [] (.qs [0, 1, 2, 3, 4, 6, 7] (.l 5 [6] (.l 8 [] (.qs [9, 10, 11] (.l 12 [] (.qs [13, 14] .nil) .no)) .no) .no)) (by decide +kernel) ?_
                   | (refine CallOb.mk [] (Mod_ok at' 2000 (by omega) (by omega)) rfl (ImpL.refl _) rfl rfl ?_; rintro _ _ ⟨rfl, rfl⟩)
                   | fail)
          all_goals try (conv => whnf)
          rw [htt]
          repeat' (conv => whnf
                   first
                   | (refine CondOb.mk (fun _ => ?_) (fun _ => ?_) <;> first | (exfalso; omega) | skip)
                   | refine ArOb.fits (by first | omega | (simp only [ints_len] at *; omega)) ?_
                   | refine CutOb.split ?_
                   | refine Gh.mk [] ?_
                   | refine And.intro (And.intro (by (simp only [List.length_append, List.length_take, List.length_drop, List.length_cons, List.length_nil, ints_len, List.length_replicate, Go.Cv.vals_len]; omega)) (by (simp only [List.length_append, List.length_take, List.length_drop, List.length_cons, List.length_nil, ints_len, List.length_replicate, Go.Cv.vals_len]; omega))) ?_
                   | refine ⟨_, _, rfl, ints_get (by first | omega | (simp only [ints_len] at *; omega)), ?_⟩
                   | refine ⟨_, _, (Int.toNat_of_nonneg (by first | omega | (simp only [ints_len] at *; omega))).symm, ints_get (by first | omega | (simp only [ints_len] at *; omega)), ?_⟩
                   | refine DrawOb.mk [] (.qs [0, 1, 2, 3, 4, 6, 7] (.l 5 [6] (.l 8 [] (.qs [9, 10, 11] (.l 12 [] (.qs [13, 14] .nil) .no)) .no) .no)) (by decide +kernel) ?_
                   | (refine CallOb.mk [] (rAt_ok (z1, p2, z3) tt hvf2 (by omega)) rfl (ImpL.refl _) rfl rfl ?_; rintro _ _ ⟨rfl, rfl⟩)
                   | (refine CallOb.mk [] (rAt_ok f tt vf (by omega)) rfl (ImpL.refl _) rfl rfl ?_; rintro _ _ ⟨rfl, rfl⟩)
                   | (refine CallOb.mk [] (awake_ok) rfl (ImpL.refl _) rfl rfl ?_; rintro _ _ ⟨rfl, rfl⟩)
                   | fail)
          all_goals try (conv => whnf)
          all_goals first
            | rfl
            | (exfalso; omega)
        · repeat' (conv => whnf
                   first
                   | (refine CondOb.mk (fun _ => ?_) (fun _ => ?_) <;> first | (exfalso; omega) | skip)
                   | refine ArOb.fits (by first | omega | (simp only [ints_len] at *; omega)) ?_
                   | refine CutOb.split ?_
                   | refine Gh.mk [] ?_
                   | refine And.intro (And.intro (by (simp only [List.length_append, List.length_take, List.length_drop, List.length_cons, List.length_nil, ints_len, List.length_replicate, Go.Cv.vals_len]; omega)) (by (simp only [List.length_append, List.length_take, List.length_drop, List.length_cons, List.length_nil, ints_len, List.length_replicate, Go.Cv.vals_len]; omega))) ?_
                   | refine ⟨_, _, rfl, ints_get (by first | omega | (simp only [ints_len] at *; omega)), ?_⟩
                   | refine ⟨_, _, (Int.toNat_of_nonneg (by first | omega | (simp only [ints_len] at *; omega))).symm, ints_get (by first | omega | (simp only [ints_len] at *; omega)), ?_⟩
                   | refine DrawOb.mk [] (.qs [0, 1, 2, 3, 4, 6, 7] (.l 5 [6] (.l 8 [] (.qs [9, 10, 11] (.l 12 [] (.qs [13, 14] .nil) .no)) .no) .no)) (by decide +kernel) ?_
                   | (refine CallOb.mk [] (Mod_ok at' 2000 (by omega) (by omega)) rfl (ImpL.refl _) rfl rfl ?_; rintro _ _ ⟨rfl, rfl⟩)
                   | (refine CallOb.mk [] (awake_ok) rfl (ImpL.refl _) rfl rfl ?_; rintro _ _ ⟨rfl, rfl⟩)
                   | fail)
          all_goals try (conv => whnf)
          all_goals first
            | rfl
            | (exfalso; omega)
    · refine .mk [] ?_
      refine CallOb.mk [] (spl4 (CSum (x1, p, x3) g hvf vg)) rfl (ImpL.refl _) rfl rfl ?_
      rintro _ _ ⟨z1, z2, z3, z4, ⟨a4, b4', ha4, hb4, hz4⟩, rfl, rfl⟩
      have e1 : a4 = (x1, p, x3) := ha4.uniq hnr
      have e2 : b4' = b3 := hb4.uniq hbn
      subst e1 e2
      rcases hz4 with ⟨_, hze⟩ | ⟨_, hz4⟩
      · cases hze
        repeat' (conv => whnf
                 first
                 | (refine CondOb.mk (fun _ => ?_) (fun _ => ?_) <;> first | (exfalso; omega) | skip)
                 | refine ArOb.fits (by first | omega | (simp only [ints_len] at *; omega)) ?_
                 | refine CutOb.split ?_
                 | refine Gh.mk [] ?_
                 | refine And.intro (And.intro (by (simp only [List.length_append, List.length_take, List.length_drop, List.length_cons, List.length_nil, ints_len, List.length_replicate, Go.Cv.vals_len]; omega)) (by (simp only [List.length_append, List.length_take, List.length_drop, List.length_cons, List.length_nil, ints_len, List.length_replicate, Go.Cv.vals_len]; omega))) ?_
                 | refine ⟨_, _, rfl, ints_get (by first | omega | (simp only [ints_len] at *; omega)), ?_⟩
                 | refine ⟨_, _, (Int.toNat_of_nonneg (by first | omega | (simp only [ints_len] at *; omega))).symm, ints_get (by first | omega | (simp only [ints_len] at *; omega)), ?_⟩
                 | refine DrawOb.mk [] (.qs [0, 1, 2, 3, 4, 6, 7] (.l 5 [6] (.l 8 [] (.qs [9, 10, 11] (.l 12 [] (.qs [13, 14] .nil) .no)) .no) .no)) (by decide +kernel) ?_
                 | (refine CallOb.mk [] (Mod_ok at' 2000 (by omega) (by omega)) rfl (ImpL.refl _) rfl rfl ?_; rintro _ _ ⟨rfl, rfl⟩)
                 | (refine CallOb.mk [] (awake_ok) rfl (ImpL.refl _) rfl rfl ?_; rintro _ _ ⟨rfl, rfl⟩)
                 | fail)
        all_goals try (conv => whnf)
        all_goals first
          | rfl
          | (exfalso; omega)
      · rcases hz4 with ⟨vs2, p2, q2, hnf2, hvf2, hze⟩ | ⟨_, hze⟩ <;> cases hze
        · have hz2 : ∀ t, cv (z1, p2, z3) t = pls (x1, p, x3) b4' t := hvf2.sound hnf2
          have hmd := md_bd (x := at') (n := 2000) (by omega)
          obtain ⟨tt, htt⟩ : ∃ tt : Nat, md at' 2000 = tt := ⟨(md at' 2000).toNat, by omega⟩
          have hge : cv f tt ≤ cv (z1, p2, z3) tt := by
            rw [hz2, ← ha.cv]
            exact back_ge vn vb hvf hr (by omega)
          repeat' (conv => whnf
                   first
                   | (refine CondOb.mk (fun _ => ?_) (fun _ => ?_) <;> first | (exfalso; omega) | skip)
                   | refine ArOb.fits (by first | omega | (simp only [ints_len] at *; omega)) ?_
                   | refine CutOb.split ?_
                   | refine Gh.mk [] ?_
                   | refine And.intro (And.intro (by (simp only [List.length_append, List.length_take, List.length_drop, List.length_cons, List.length_nil, ints_len, List.length_replicate, Go.Cv.vals_len]; omega)) (by (simp only [List.length_append, List.length_take, List.length_drop, List.length_cons, List.length_nil, ints_len, List.length_replicate, Go.Cv.vals_len]; omega))) ?_
                   | refine ⟨_, _, rfl, ints_get (by first | omega | (simp only [ints_len] at *; omega)), ?_⟩
                   | refine ⟨_, _, (Int.toNat_of_nonneg (by first | omega | (simp only [ints_len] at *; omega))).symm, ints_get (by first | omega | (simp only [ints_len] at *; omega)), ?_⟩
                   | refine DrawOb.mk [] (.qs [0, 1, 2, 3, 4, 6, 7] (.l 5 [6] (.l 8 [] (.qs [9, 10, 11] (.l 12 [] (.qs [13, 14] .nil) .no)) .no) .no)) (by decide +kernel) ?_
                   | (refine CallOb.mk [] (Mod_ok at' 2000 (by omega) (by omega)) rfl (ImpL.refl _) rfl rfl ?_; rintro _ _ ⟨rfl, rfl⟩)
                   | fail)
          all_goals try (conv => whnf)
          rw [htt]
          repeat' (conv => whnf
                   first
                   | (refine CondOb.mk (fun _ => ?_) (fun _ => ?_) <;> first | (exfalso; omega) | skip)
                   | refine ArOb.fits (by first | omega | (simp only [ints_len] at *; omega)) ?_
                   | refine CutOb.split ?_
                   | refine Gh.mk [] ?_
                   | refine And.intro (And.intro (by (simp only [List.length_append, List.length_take, List.length_drop, List.length_cons, List.length_nil, ints_len, List.length_replicate, Go.Cv.vals_len]; omega)) (by (simp only [List.length_append, List.length_take, List.length_drop, List.length_cons, List.length_nil, ints_len, List.length_replicate, Go.Cv.vals_len]; omega))) ?_
                   | refine ⟨_, _, rfl, ints_get (by first | omega | (simp only [ints_len] at *; omega)), ?_⟩
                   | refine ⟨_, _, (Int.toNat_of_nonneg (by first | omega | (simp only [ints_len] at *; omega))).symm, ints_get (by first | omega | (simp only [ints_len] at *; omega)), ?_⟩
                   | refine DrawOb.mk [] (.qs [0, 1, 2, 3, 4, 6, 7] (.l 5 [6] (.l 8 [] (.qs [9, 10, 11] (.l 12 [] (.qs [13, 14] .nil) .no)) .no) .no)) (by decide +kernel) ?_
                   | (refine CallOb.mk [] (rAt_ok (z1, p2, z3) tt hvf2 (by omega)) rfl (ImpL.refl _) rfl rfl ?_; rintro _ _ ⟨rfl, rfl⟩)
                   | (refine CallOb.mk [] (rAt_ok f tt vf (by omega)) rfl (ImpL.refl _) rfl rfl ?_; rintro _ _ ⟨rfl, rfl⟩)
                   | (refine CallOb.mk [] (awake_ok) rfl (ImpL.refl _) rfl rfl ?_; rintro _ _ ⟨rfl, rfl⟩)
                   | fail)
          all_goals try (conv => whnf)
          all_goals first
            | rfl
            | (exfalso; omega)
        · repeat' (conv => whnf
                   first
                   | (refine CondOb.mk (fun _ => ?_) (fun _ => ?_) <;> first | (exfalso; omega) | skip)
                   | refine ArOb.fits (by first | omega | (simp only [ints_len] at *; omega)) ?_
                   | refine CutOb.split ?_
                   | refine Gh.mk [] ?_
                   | refine And.intro (And.intro (by (simp only [List.length_append, List.length_take, List.length_drop, List.length_cons, List.length_nil, ints_len, List.length_replicate, Go.Cv.vals_len]; omega)) (by (simp only [List.length_append, List.length_take, List.length_drop, List.length_cons, List.length_nil, ints_len, List.length_replicate, Go.Cv.vals_len]; omega))) ?_
                   | refine ⟨_, _, rfl, ints_get (by first | omega | (simp only [ints_len] at *; omega)), ?_⟩
                   | refine ⟨_, _, (Int.toNat_of_nonneg (by first | omega | (simp only [ints_len] at *; omega))).symm, ints_get (by first | omega | (simp only [ints_len] at *; omega)), ?_⟩
                   | refine DrawOb.mk [] (.qs [0, 1, 2, 3, 4, 6, 7] (.l 5 [6] (.l 8 [] (.qs [9, 10, 11] (.l 12 [] (.qs [13, 14] .nil) .no)) .no) .no)) (by decide +kernel) ?_
                   | (refine CallOb.mk [] (Mod_ok at' 2000 (by omega) (by omega)) rfl (ImpL.refl _) rfl rfl ?_; rintro _ _ ⟨rfl, rfl⟩)
                   | (refine CallOb.mk [] (awake_ok) rfl (ImpL.refl _) rfl rfl ?_; rintro _ _ ⟨rfl, rfl⟩)
                   | fail)
          all_goals try (conv => whnf)
          all_goals first
            | rfl
            | (exfalso; omega)
  · repeat' (conv => whnf
             first
             | (refine CondOb.mk (fun _ => ?_) (fun _ => ?_) <;> first | (exfalso; omega) | skip)
             | refine ArOb.fits (by first | omega | (simp only [ints_len] at *; omega)) ?_
             | refine CutOb.split ?_
             | refine Gh.mk [] ?_
             | refine And.intro (And.intro (by (simp only [List.length_append, List.length_take, List.length_drop, List.length_cons, List.length_nil, ints_len, List.length_replicate, Go.Cv.vals_len]; omega)) (by (simp only [List.length_append, List.length_take, List.length_drop, List.length_cons, List.length_nil, ints_len, List.length_replicate, Go.Cv.vals_len]; omega))) ?_
             | refine ⟨_, _, rfl, ints_get (by first | omega | (simp only [ints_len] at *; omega)), ?_⟩
             | refine ⟨_, _, (Int.toNat_of_nonneg (by first | omega | (simp only [ints_len] at *; omega))).symm, ints_get (by first | omega | (simp only [ints_len] at *; omega)), ?_⟩
             | refine DrawOb.mk [] (.qs [0, 1, 2, 3, 4, 6, 7] (.l 5 [6] (.l 8 [] (.qs [9, 10, 11] (.l 12 [] (.qs [13, 14] .nil) .no)) .no) .no)) (by decide +kernel) ?_
             | (refine CallOb.mk [] (awake_ok) rfl (ImpL.refl _) rfl rfl ?_; rintro _ _ ⟨rfl, rfl⟩)
             | fail)
    all_goals try (conv => whnf)
    all_goals first
      | rfl
      | (exfalso; omega)
end Go.Proofs.Ytppdpfaipkjpmaa
