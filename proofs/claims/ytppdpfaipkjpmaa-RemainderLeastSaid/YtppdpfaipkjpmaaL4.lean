/-
  A text of the proofs of this seat: lemmas that the statements' proofs use; it states nothing of the program by itself beyond the contracts that its theorems bear. Conditions: those that stand in each theorem. Its short name: L4.
-/
import Derived.Test.YtppdpfaipkjpmaaK8
set_option linter.unusedVariables false
set_option linter.unusedSimpArgs false
namespace Go.Proofs.Ytppdpfaipkjpmaa
open Go.Sx Go.Cv
set_option maxRecDepth 4000
set_option maxHeartbeats 4000000
theorem Least_ok' (l : List Int) (hl : l.length ≤ 9223372036854775807) : Ctr Try.prog 6 [.psl 1 (ints l)] [] (fun r o => r = .bl true) := by
  refine fn_intro (E := env 0) tys_ok rfl rfl rfl Try.func6 (by kernel_rfl) rfl (by kernel_rfl) ?_
  have hL : (l.take 2000).length ≤ 2000 := by rw [List.length_take]; omega
  repeat' (conv => whnf
           first
           | (refine CondOb.mk (fun _ => ?_) (fun _ => ?_) <;> first | (exfalso; omega) | skip)
           | refine ArOb.fits (by first | omega | (simp only [ints_len] at *; omega)) ?_
           | refine CutOb.split ?_
           | refine Gh.mk [] ?_
           | refine And.intro (And.intro (by (simp only [List.length_append, List.length_take, List.length_drop, List.length_cons, List.length_nil, ints_len, List.length_replicate, Go.Cv.vals_len]; omega)) (by (simp only [List.length_append, List.length_take, List.length_drop, List.length_cons, List.length_nil, ints_len, List.length_replicate, Go.Cv.vals_len]; omega))) ?_
           | refine ⟨_, _, rfl, ints_get (by first | omega | (simp only [ints_len] at *; omega)), ?_⟩
           | refine ⟨_, _, (Int.toNat_of_nonneg (by first | omega | (simp only [ints_len] at *; omega))).symm, ints_get (by first | omega | (simp only [ints_len] at *; omega)), ?_⟩
           | refine DrawOb.mk [] (.qs [0, 1, 2, 3, 4, 6, 7] (.l 5 [7, 6] (.l 8 [] (.qs [9, 10, 11] (.l 12 [] (.qs [13, 14] .nil) .no)) .no) .no)) (by decide +kernel) ?_
           | (refine CallOb.mk [] (New_ok l hl) rfl (ImpL.refl _) rfl rfl ?_; rintro _ _ ⟨rfl, rfl⟩)
           | fail)
  all_goals try (conv => whnf)
  refine CallOb.mk [0] (Ctr.impE (Zero_ok _ 0 hL (by omega) 5 (by omega) (by omega))) rfl (ImpL.refl _) rfl rfl ?_
  rintro _ _ ⟨⟨f, k1⟩, ⟨hf, hk1⟩, rfl, rfl⟩
  dsimp only at hf hk1 ⊢
  repeat' (conv => whnf
           first
           | (refine CondOb.mk (fun _ => ?_) (fun _ => ?_) <;> first | (exfalso; omega) | skip)
           | refine ArOb.fits (by first | omega | (simp only [ints_len] at *; omega)) ?_
           | refine CutOb.split ?_
           | refine Gh.mk [] ?_
           | refine And.intro (And.intro (by (simp only [List.length_append, List.length_take, List.length_drop, List.length_cons, List.length_nil, ints_len, List.length_replicate, Go.Cv.vals_len]; omega)) (by (simp only [List.length_append, List.length_take, List.length_drop, List.length_cons, List.length_nil, ints_len, List.length_replicate, Go.Cv.vals_len]; omega))) ?_
           | refine ⟨_, _, rfl, ints_get (by first | omega | (simp only [ints_len] at *; omega)), ?_⟩
           | refine ⟨_, _, (Int.toNat_of_nonneg (by first | omega | (simp only [ints_len] at *; omega))).symm, ints_get (by first | omega | (simp only [ints_len] at *; omega)), ?_⟩
           | refine DrawOb.mk [] (.qs [0, 1, 2, 3, 4, 6, 7] (.l 5 [7, 6] (.l 8 [] (.qs [9, 10, 11] (.l 12 [] (.qs [13, 14] .nil) .no)) .no) .no)) (by decide +kernel) ?_
           | fail)
  all_goals try (conv => whnf)
  refine CallOb.mk [0] (Ctr.impE (Zero_ok _ k1 hL hk1 5 (by omega) (by omega))) rfl (ImpL.refl _) rfl rfl ?_
  rintro _ _ ⟨⟨g, k2⟩, ⟨hg, hk2⟩, rfl, rfl⟩
  dsimp only at hg hk2 ⊢
  repeat' (conv => whnf
           first
           | (refine CondOb.mk (fun _ => ?_) (fun _ => ?_) <;> first | (exfalso; omega) | skip)
           | refine ArOb.fits (by first | omega | (simp only [ints_len] at *; omega)) ?_
           | refine CutOb.split ?_
           | refine Gh.mk [] ?_
           | refine And.intro (And.intro (by (simp only [List.length_append, List.length_take, List.length_drop, List.length_cons, List.length_nil, ints_len, List.length_replicate, Go.Cv.vals_len]; omega)) (by (simp only [List.length_append, List.length_take, List.length_drop, List.length_cons, List.length_nil, ints_len, List.length_replicate, Go.Cv.vals_len]; omega))) ?_
           | refine ⟨_, _, rfl, ints_get (by first | omega | (simp only [ints_len] at *; omega)), ?_⟩
           | refine ⟨_, _, (Int.toNat_of_nonneg (by first | omega | (simp only [ints_len] at *; omega))).symm, ints_get (by first | omega | (simp only [ints_len] at *; omega)), ?_⟩
           | refine DrawOb.mk [] (.qs [0, 1, 2, 3, 4, 6, 7] (.l 5 [7, 6] (.l 8 [] (.qs [9, 10, 11] (.l 12 [] (.qs [13, 14] .nil) .no)) .no) .no)) (by decide +kernel) ?_
           | fail)
  all_goals try (conv => whnf)
  refine CallOb.mk [0] (Ctr.impE (Zero_ok _ k2 hL hk2 5 (by omega) (by omega))) rfl (ImpL.refl _) rfl rfl ?_
  rintro _ _ ⟨⟨h, k3⟩, ⟨hh, hk3⟩, rfl, rfl⟩
  dsimp only at hh hk3 ⊢
  have vf := hf.v
  have vg := hg.v
  have vh := hh.v
  obtain ⟨a, na, za⟩ := hf.n
  obtain ⟨b, nb, zb⟩ := hg.n
  obtain ⟨c, nc, zc⟩ := hh.n
  have va := za.v
  have vb := zb.v
  obtain ⟨cab1, cab, _⟩ := late_bd za zb (by omega) (by omega)
  repeat' (conv => whnf
           first
           | (refine CondOb.mk (fun _ => ?_) (fun _ => ?_) <;> first | (exfalso; omega) | skip)
           | refine ArOb.fits (by first | omega | (simp only [ints_len] at *; omega)) ?_
           | refine CutOb.split ?_
           | refine Gh.mk [] ?_
           | refine And.intro (And.intro (by (simp only [List.length_append, List.length_take, List.length_drop, List.length_cons, List.length_nil, ints_len, List.length_replicate, Go.Cv.vals_len]; omega)) (by (simp only [List.length_append, List.length_take, List.length_drop, List.length_cons, List.length_nil, ints_len, List.length_replicate, Go.Cv.vals_len]; omega))) ?_
           | refine ⟨_, _, rfl, ints_get (by first | omega | (simp only [ints_len] at *; omega)), ?_⟩
           | refine ⟨_, _, (Int.toNat_of_nonneg (by first | omega | (simp only [ints_len] at *; omega))).symm, ints_get (by first | omega | (simp only [ints_len] at *; omega)), ?_⟩
           | refine DrawOb.mk [] (.qs [0, 1, 2, 3, 4, 6, 7] (.l 5 [7, 6] (.l 8 [] (.qs [9, 10, 11] (.l 12 [] (.qs [13, 14] .nil) .no)) .no) .no)) (by decide +kernel) ?_
           | fail)
  all_goals try (conv => whnf)
  refine CallOb.mk [] (DRest f g a b vf vg na nb (by omega)) rfl (ImpL.refl _) rfl rfl ?_
  rintro _ _ ⟨r1, r2, r3, r4, hr, rfl, rfl⟩
  rcases hr with ⟨r, vr, nfr, hrv, rfl, rfl, rfl, rfl⟩ | ⟨rfl, rfl, rfl, rfl⟩
  · have nr := NrmOf.of_nf vr nfr
    have fr := rest_fin va vb za.f vr hrv
    repeat' (conv => whnf
             first
             | (refine CondOb.mk (fun _ => ?_) (fun _ => ?_) <;> first | (exfalso; omega) | skip)
             | refine ArOb.fits (by first | omega | (simp only [ints_len] at *; omega)) ?_
             | refine CutOb.split ?_
             | refine Gh.mk [] ?_
             | refine And.intro (And.intro (by (simp only [List.length_append, List.length_take, List.length_drop, List.length_cons, List.length_nil, ints_len, List.length_replicate, Go.Cv.vals_len]; omega)) (by (simp only [List.length_append, List.length_take, List.length_drop, List.length_cons, List.length_nil, ints_len, List.length_replicate, Go.Cv.vals_len]; omega))) ?_
             | refine ⟨_, _, rfl, ints_get (by first | omega | (simp only [ints_len] at *; omega)), ?_⟩
             | refine ⟨_, _, (Int.toNat_of_nonneg (by first | omega | (simp only [ints_len] at *; omega))).symm, ints_get (by first | omega | (simp only [ints_len] at *; omega)), ?_⟩
             | refine DrawOb.mk [] (.qs [0, 1, 2, 3, 4, 6, 7] (.l 5 [7, 6] (.l 8 [] (.qs [9, 10, 11] (.l 12 [] (.qs [13, 14] .nil) .no)) .no) .no)) (by decide +kernel) ?_
             | fail)
    all_goals try (conv => whnf)
    refine CallOb.mk [0] (N_ok _ k3 hL hk3 2 (by omega) (by omega)) rfl (ImpL.refl _) rfl rfl ?_
    rintro _ _ ⟨⟨v2, k4⟩, ⟨hv2, hv2', hk4⟩, rfl, rfl⟩
    dsimp only at hv2 hv2' hk4 ⊢
    repeat' (conv => whnf
             first
             | (refine CondOb.mk (fun _ => ?_) (fun _ => ?_) <;> first | (exfalso; omega) | skip)
             | refine ArOb.fits (by first | omega | (simp only [ints_len] at *; omega)) ?_
             | refine Gh.mk [] ?_
             | refine And.intro (And.intro (by (simp only [List.length_append, List.length_take, List.length_drop, List.length_cons, List.length_nil, ints_len, List.length_replicate, Go.Cv.vals_len]; omega)) (by (simp only [List.length_append, List.length_take, List.length_drop, List.length_cons, List.length_nil, ints_len, List.length_replicate, Go.Cv.vals_len]; omega))) ?_
             | refine ⟨_, _, rfl, ints_get (by first | omega | (simp only [ints_len] at *; omega)), ?_⟩
             | refine ⟨_, _, (Int.toNat_of_nonneg (by first | omega | (simp only [ints_len] at *; omega))).symm, ints_get (by first | omega | (simp only [ints_len] at *; omega)), ?_⟩
             | refine DrawOb.mk [] (.qs [0, 1, 2, 3, 4, 6, 7] (.l 5 [7, 6] (.l 8 [] (.qs [9, 10, 11] (.l 12 [] (.qs [13, 14] .nil) .no)) .no) .no)) (by decide +kernel) ?_
             | fail)
    all_goals try (conv => whnf)
    · refine DrawOb.cut [] (.qs [0, 1] (.l 2 [0] (.l 3 [] (.qs [4, 5, 6] (.l 7 [] (.l 8 [] (.qs [9] .nil) .no) .no)) (.l 7 [0] (.l 3 [] (.qs [4, 5, 6] (.l 8 [] (.qs [9] .nil) .no)) .no) .no)) (.l 7 [0] (.l 2 [0] (.l 3 [] (.qs [4, 5, 6] (.l 8 [] (.qs [9] .nil) .no)) .no) .no) .no))) (Y := Nat × (List Int × Int × Int × Int)) (st := fun y => ⟨[(10, i64 y.2.2.2.2), (9, .ptr 5 0), (7, .ptr 4 0), (6, .ptr 3 0), (5, .ptr 2 0), (4, .ptr 1 0), (3, .ptr 0 0)], [src (List.take 2000 l) y.1, .box [.psl 1 (ints f.1), i64 f.2.1, i64 f.2.2], .box [.psl 1 (ints g.1), i64 g.2.1, i64 g.2.2], .box [.psl 1 (ints h.1), i64 h.2.1, i64 h.2.2], .box [.psl 1 (ints r.1), i64 r.2.1, i64 r.2.2], .box [.psl 1 (ints y.2.1), i64 y.2.2.1, i64 y.2.2.2.1]]⟩) (inv := fun y => y.1 ≤ 2000 ∧ ∃ v3 : Int, 0 ≤ v3 ∧ v3 < 3 ∧ MkP (rai r v3) y.2) (by decide +kernel) ?_ ?_
      · repeat' (conv => whnf
                 first
                 | (refine CondOb.mk (fun _ => ?_) (fun _ => ?_) <;> first | (exfalso; omega) | skip)
                 | refine ArOb.fits (by first | omega | (simp only [ints_len] at *; omega)) ?_
                 | refine Gh.mk [] ?_
                 | refine And.intro (And.intro (by (simp only [List.length_append, List.length_take, List.length_drop, List.length_cons, List.length_nil, ints_len, List.length_replicate, Go.Cv.vals_len]; omega)) (by (simp only [List.length_append, List.length_take, List.length_drop, List.length_cons, List.length_nil, ints_len, List.length_replicate, Go.Cv.vals_len]; omega))) ?_
                 | refine ⟨_, _, rfl, ints_get (by first | omega | (simp only [ints_len] at *; omega)), ?_⟩
                 | refine ⟨_, _, (Int.toNat_of_nonneg (by first | omega | (simp only [ints_len] at *; omega))).symm, ints_get (by first | omega | (simp only [ints_len] at *; omega)), ?_⟩
                 | refine DrawOb.mk [] (.qs [0, 1, 2, 3, 4, 6, 7] (.l 5 [7, 6] (.l 8 [] (.qs [9, 10, 11] (.l 12 [] (.qs [13, 14] .nil) .no)) .no) .no)) (by decide +kernel) ?_
                 | refine And.intro ?_ ?_
                 | fail)
        all_goals try (conv => whnf)
        all_goals
          refine CallOb.mk [0] (N_ok _ k4 hL hk4 3 (by omega) (by omega)) rfl (ImpL.refl _) rfl rfl ?_
          rintro _ _ ⟨⟨v3, k5⟩, ⟨hv3, hv3', hk5⟩, rfl, rfl⟩
          dsimp only at hv3 hv3' hk5 ⊢
          repeat' (conv => whnf
                   first
                   | (refine CondOb.mk (fun _ => ?_) (fun _ => ?_) <;> first | (exfalso; omega) | skip)
                   | refine ArOb.fits (by first | omega | (simp only [ints_len] at *; omega)) ?_
                   | refine Gh.mk [] ?_
                   | refine And.intro (And.intro (by (simp only [List.length_append, List.length_take, List.length_drop, List.length_cons, List.length_nil, ints_len, List.length_replicate, Go.Cv.vals_len]; omega)) (by (simp only [List.length_append, List.length_take, List.length_drop, List.length_cons, List.length_nil, ints_len, List.length_replicate, Go.Cv.vals_len]; omega))) ?_
                   | refine ⟨_, _, rfl, ints_get (by first | omega | (simp only [ints_len] at *; omega)), ?_⟩
                   | refine ⟨_, _, (Int.toNat_of_nonneg (by first | omega | (simp only [ints_len] at *; omega))).symm, ints_get (by first | omega | (simp only [ints_len] at *; omega)), ?_⟩
                   | refine DrawOb.mk [] (.qs [0, 1, 2, 3, 4, 6, 7] (.l 5 [7, 6] (.l 8 [] (.qs [9, 10, 11] (.l 12 [] (.qs [13, 14] .nil) .no)) .no) .no)) (by decide +kernel) ?_
                   | refine And.intro ?_ ?_
                   | fail)
          all_goals try (conv => whnf)
          all_goals
            refine CallOb.mk [] (spl4 (Raise_ok r r vr nr fr v3 hv3 (by omega))) rfl (ImpL.refl _) rfl rfl ?_
            rintro _ _ ⟨x1, x2, x3, x4, hx, rfl, rfl⟩
            repeat' (conv => whnf
                     first
                     | (refine CondOb.mk (fun _ => ?_) (fun _ => ?_) <;> first | (exfalso; omega) | skip)
                     | refine ArOb.fits (by first | omega | (simp only [ints_len] at *; omega)) ?_
                     | refine And.intro (And.intro (by (simp only [List.length_append, List.length_take, List.length_drop, List.length_cons, List.length_nil, ints_len, List.length_replicate, Go.Cv.vals_len]; omega)) (by (simp only [List.length_append, List.length_take, List.length_drop, List.length_cons, List.length_nil, ints_len, List.length_replicate, Go.Cv.vals_len]; omega))) ?_
                     | refine ⟨_, _, rfl, ints_get (by first | omega | (simp only [ints_len] at *; omega)), ?_⟩
                     | refine ⟨_, _, (Int.toNat_of_nonneg (by first | omega | (simp only [ints_len] at *; omega))).symm, ints_get (by first | omega | (simp only [ints_len] at *; omega)), ?_⟩
                     | refine DrawOb.mk [] (.qs [0, 1, 2, 3, 4, 6, 7] (.l 5 [7, 6] (.l 8 [] (.qs [9, 10, 11] (.l 12 [] (.qs [13, 14] .nil) .no)) .no) .no)) (by decide +kernel) ?_
                     | fail)
            all_goals try (conv => whnf)
            refine .mk [] ?_
            exact ⟨(k5, x1, x2, x3, x4), [0, 1, 2, 3, 4, 5], ⟨hk5, v3, hv3, hv3', hx⟩, by (refine Le.mk (by kernel_rfl) ?_ ?_ <;> repeat' (first | exact True.intro | refine And.intro ?_ ?_ | exact Imp.refl _ | exact Imp.any _ | exact Imp.num (by first | omega | simp only [ints_len]) | exact rfl))⟩
      · rintro ⟨k5, x1, x2, x3, x4⟩ ⟨hk5, v3, hv3, hv3', hx⟩
        dsimp only at hk5 hx ⊢
        have vH0 := vh
        have hR0 : Raised a b c := zer_raised zc zb (by omega) (by omega)
        rcases hx with ⟨vs, p, q, hnf, hvf, hxe⟩ | ⟨hno, hxe⟩ <;> cases hxe
        · repeat' (conv => whnf
                   first
                   | (refine CondOb.mk (fun _ => ?_) (fun _ => ?_) <;> first | (exfalso; omega) | skip)
                   | refine ArOb.fits (by first | omega | (simp only [ints_len] at *; omega)) ?_
                   | refine CutOb.split ?_
                   | refine Gh.mk [] ?_
                   | refine And.intro (And.intro (by (simp only [List.length_append, List.length_take, List.length_drop, List.length_cons, List.length_nil, ints_len, List.length_replicate, Go.Cv.vals_len]; omega)) (by (simp only [List.length_append, List.length_take, List.length_drop, List.length_cons, List.length_nil, ints_len, List.length_replicate, Go.Cv.vals_len]; omega))) ?_
                   | refine ⟨_, _, rfl, ints_get (by first | omega | (simp only [ints_len] at *; omega)), ?_⟩
                   | refine ⟨_, _, (Int.toNat_of_nonneg (by first | omega | (simp only [ints_len] at *; omega))).symm, ints_get (by first | omega | (simp only [ints_len] at *; omega)), ?_⟩
                   | refine DrawOb.mk [] (.qs [0, 1, 2, 3, 4, 6, 7] (.l 5 [7, 6] (.l 8 [] (.qs [9, 10, 11] (.l 12 [] (.qs [13, 14] .nil) .no)) .no) .no)) (by decide +kernel) ?_
                   | fail)
          all_goals try (conv => whnf)
          have vH : VC (x1, p, x3) := hvf
          have nH := NrmOf.of_nf (c := (x1, p, x3)) hvf hnf
          have hR : Raised a b (x1, p, x3) := raised_of za zb (by omega) (by omega) vr hrv hv3 (by omega) hvf hnf
          refine CallOb.mk [] (DSum (x1, p, x3) g (x1, p, x3) b vH vg nH nb hR.c) rfl (ImpL.refl _) rfl rfl ?_
          rintro _ _ ⟨s1, s2, s3, s4, hs, rfl, rfl⟩
          obtain ⟨s, vs, nfs, hse, hsv⟩ := mk_read hs (hR.s _ hs)
          cases hse
          obtain ⟨fs, hsv'⟩ := sum_fin hR.v vb hR.f zb.f vs hsv
          have hsv2 : ∀ t, cv s t = cv (x1, p, x3) t + cv b t := fun t => by rw [hsv', nH.cv]
          have hleast := rest_least vf va vb za.f zb.f hf.f (fun t => (na.cv t).symm) vr hrv vH (fin_back vH hR.f nH) vs hsv2 fs
          rw [← atMost_iff vr vH (by have := com_le vr vH; omega), ← atMost_iff vf vs (by have := com_le vf vs; omega)] at hleast
          repeat' (conv => whnf
                   first
                   | (refine CondOb.mk (fun _ => ?_) (fun _ => ?_) <;> first | (exfalso; omega) | skip)
                   | refine ArOb.fits (by first | omega | (simp only [ints_len] at *; omega)) ?_
                   | refine CutOb.split ?_
                   | refine Gh.mk [] ?_
                   | refine And.intro (And.intro (by (simp only [List.length_append, List.length_take, List.length_drop, List.length_cons, List.length_nil, ints_len, List.length_replicate, Go.Cv.vals_len]; omega)) (by (simp only [List.length_append, List.length_take, List.length_drop, List.length_cons, List.length_nil, ints_len, List.length_replicate, Go.Cv.vals_len]; omega))) ?_
                   | refine ⟨_, _, rfl, ints_get (by first | omega | (simp only [ints_len] at *; omega)), ?_⟩
                   | refine ⟨_, _, (Int.toNat_of_nonneg (by first | omega | (simp only [ints_len] at *; omega))).symm, ints_get (by first | omega | (simp only [ints_len] at *; omega)), ?_⟩
                   | refine DrawOb.mk [] (.qs [0, 1, 2, 3, 4, 6, 7] (.l 5 [7, 6] (.l 8 [] (.qs [9, 10, 11] (.l 12 [] (.qs [13, 14] .nil) .no)) .no) .no)) (by decide +kernel) ?_
                   | (refine CallOb.mk [] (AtMost_ok r (x1, p, x3) vr vH) rfl (ImpL.refl _) rfl rfl ?_; rintro _ _ ⟨rfl, rfl⟩)
                   | (refine CallOb.mk [] (AtMost_ok f s vf vs) rfl (ImpL.refl _) rfl rfl ?_; rintro _ _ ⟨rfl, rfl⟩)
                   | (refine CallOb.mk [] (awake_ok) rfl (ImpL.refl _) rfl rfl ?_; rintro _ _ ⟨rfl, rfl⟩)
                   | fail)
          all_goals try (conv => whnf)
          all_goals first
            | rfl
            | exact absurd hleast (by assumption)
            | (exfalso; omega)
        · repeat' (conv => whnf
                   first
                   | (refine CondOb.mk (fun _ => ?_) (fun _ => ?_) <;> first | (exfalso; omega) | skip)
                   | refine ArOb.fits (by first | omega | (simp only [ints_len] at *; omega)) ?_
                   | refine CutOb.split ?_
                   | refine Gh.mk [] ?_
                   | refine And.intro (And.intro (by (simp only [List.length_append, List.length_take, List.length_drop, List.length_cons, List.length_nil, ints_len, List.length_replicate, Go.Cv.vals_len]; omega)) (by (simp only [List.length_append, List.length_take, List.length_drop, List.length_cons, List.length_nil, ints_len, List.length_replicate, Go.Cv.vals_len]; omega))) ?_
                   | refine ⟨_, _, rfl, ints_get (by first | omega | (simp only [ints_len] at *; omega)), ?_⟩
                   | refine ⟨_, _, (Int.toNat_of_nonneg (by first | omega | (simp only [ints_len] at *; omega))).symm, ints_get (by first | omega | (simp only [ints_len] at *; omega)), ?_⟩
                   | refine DrawOb.mk [] (.qs [0, 1, 2, 3, 4, 6, 7] (.l 5 [7, 6] (.l 8 [] (.qs [9, 10, 11] (.l 12 [] (.qs [13, 14] .nil) .no)) .no) .no)) (by decide +kernel) ?_
                   | fail)
          all_goals try (conv => whnf)
          have vH := vh
          have nH := nc
          have hR := hR0
          refine CallOb.mk [] (DSum h g c b vH vg nH nb hR.c) rfl (ImpL.refl _) rfl rfl ?_
          rintro _ _ ⟨s1, s2, s3, s4, hs, rfl, rfl⟩
          obtain ⟨s, vs, nfs, hse, hsv⟩ := mk_read hs (hR.s _ hs)
          cases hse
          obtain ⟨fs, hsv'⟩ := sum_fin hR.v vb hR.f zb.f vs hsv
          have hsv2 : ∀ t, cv s t = cv h t + cv b t := fun t => by rw [hsv', nH.cv]
          have hleast := rest_least vf va vb za.f zb.f hf.f (fun t => (na.cv t).symm) vr hrv vH (fin_back vH hR.f nH) vs hsv2 fs
          rw [← atMost_iff vr vH (by have := com_le vr vH; omega), ← atMost_iff vf vs (by have := com_le vf vs; omega)] at hleast
          repeat' (conv => whnf
                   first
                   | (refine CondOb.mk (fun _ => ?_) (fun _ => ?_) <;> first | (exfalso; omega) | skip)
                   | refine ArOb.fits (by first | omega | (simp only [ints_len] at *; omega)) ?_
                   | refine CutOb.split ?_
                   | refine Gh.mk [] ?_
                   | refine And.intro (And.intro (by (simp only [List.length_append, List.length_take, List.length_drop, List.length_cons, List.length_nil, ints_len, List.length_replicate, Go.Cv.vals_len]; omega)) (by (simp only [List.length_append, List.length_take, List.length_drop, List.length_cons, List.length_nil, ints_len, List.length_replicate, Go.Cv.vals_len]; omega))) ?_
                   | refine ⟨_, _, rfl, ints_get (by first | omega | (simp only [ints_len] at *; omega)), ?_⟩
                   | refine ⟨_, _, (Int.toNat_of_nonneg (by first | omega | (simp only [ints_len] at *; omega))).symm, ints_get (by first | omega | (simp only [ints_len] at *; omega)), ?_⟩
                   | refine DrawOb.mk [] (.qs [0, 1, 2, 3, 4, 6, 7] (.l 5 [7, 6] (.l 8 [] (.qs [9, 10, 11] (.l 12 [] (.qs [13, 14] .nil) .no)) .no) .no)) (by decide +kernel) ?_
                   | (refine CallOb.mk [] (AtMost_ok r h vr vH) rfl (ImpL.refl _) rfl rfl ?_; rintro _ _ ⟨rfl, rfl⟩)
                   | (refine CallOb.mk [] (AtMost_ok f s vf vs) rfl (ImpL.refl _) rfl rfl ?_; rintro _ _ ⟨rfl, rfl⟩)
                   | (refine CallOb.mk [] (awake_ok) rfl (ImpL.refl _) rfl rfl ?_; rintro _ _ ⟨rfl, rfl⟩)
                   | fail)
          all_goals try (conv => whnf)
          all_goals first
            | rfl
            | exact absurd hleast (by assumption)
            | (exfalso; omega)
    · have vH := vh
      have nH := nc
      have hR : Raised a b c := zer_raised zc zb (by omega) (by omega)
      refine CallOb.mk [] (DSum h g c b vH vg nH nb hR.c) rfl (ImpL.refl _) rfl rfl ?_
      rintro _ _ ⟨s1, s2, s3, s4, hs, rfl, rfl⟩
      obtain ⟨s, vs, nfs, hse, hsv⟩ := mk_read hs (hR.s _ hs)
      cases hse
      obtain ⟨fs, hsv'⟩ := sum_fin hR.v vb hR.f zb.f vs hsv
      have hsv2 : ∀ t, cv s t = cv h t + cv b t := fun t => by rw [hsv', nH.cv]
      have hleast := rest_least vf va vb za.f zb.f hf.f (fun t => (na.cv t).symm) vr hrv vH (fin_back vH hR.f nH) vs hsv2 fs
      rw [← atMost_iff vr vH (by have := com_le vr vH; omega), ← atMost_iff vf vs (by have := com_le vf vs; omega)] at hleast
      repeat' (conv => whnf
               first
               | (refine CondOb.mk (fun _ => ?_) (fun _ => ?_) <;> first | (exfalso; omega) | skip)
               | refine ArOb.fits (by first | omega | (simp only [ints_len] at *; omega)) ?_
               | refine CutOb.split ?_
               | refine Gh.mk [] ?_
               | refine And.intro (And.intro (by (simp only [List.length_append, List.length_take, List.length_drop, List.length_cons, List.length_nil, ints_len, List.length_replicate, Go.Cv.vals_len]; omega)) (by (simp only [List.length_append, List.length_take, List.length_drop, List.length_cons, List.length_nil, ints_len, List.length_replicate, Go.Cv.vals_len]; omega))) ?_
               | refine ⟨_, _, rfl, ints_get (by first | omega | (simp only [ints_len] at *; omega)), ?_⟩
               | refine ⟨_, _, (Int.toNat_of_nonneg (by first | omega | (simp only [ints_len] at *; omega))).symm, ints_get (by first | omega | (simp only [ints_len] at *; omega)), ?_⟩
               | refine DrawOb.mk [] (.qs [0, 1, 2, 3, 4, 6, 7] (.l 5 [7, 6] (.l 8 [] (.qs [9, 10, 11] (.l 12 [] (.qs [13, 14] .nil) .no)) .no) .no)) (by decide +kernel) ?_
               | (refine CallOb.mk [] (AtMost_ok r h vr vH) rfl (ImpL.refl _) rfl rfl ?_; rintro _ _ ⟨rfl, rfl⟩)
               | (refine CallOb.mk [] (AtMost_ok f s vf vs) rfl (ImpL.refl _) rfl rfl ?_; rintro _ _ ⟨rfl, rfl⟩)
               | (refine CallOb.mk [] (awake_ok) rfl (ImpL.refl _) rfl rfl ?_; rintro _ _ ⟨rfl, rfl⟩)
               | fail)
      all_goals try (conv => whnf)
      all_goals first
        | rfl
        | exact absurd hleast (by assumption)
        | (exfalso; omega)
  · repeat' (conv => whnf
             first
             | (refine CondOb.mk (fun _ => ?_) (fun _ => ?_) <;> first | (exfalso; omega) | skip)
             | refine ArOb.fits (by first | omega | (simp only [ints_len] at *; omega)) ?_
             | refine CutOb.split ?_
             | refine Gh.mk [] ?_
             | refine And.intro (And.intro (by (simp only [List.length_append, List.length_take, List.length_drop, List.length_cons, List.length_nil, ints_len, List.length_replicate, Go.Cv.vals_len]; omega)) (by (simp only [List.length_append, List.length_take, List.length_drop, List.length_cons, List.length_nil, ints_len, List.length_replicate, Go.Cv.vals_len]; omega))) ?_
             | refine ⟨_, _, rfl, ints_get (by first | omega | (simp only [ints_len] at *; omega)), ?_⟩
             | refine ⟨_, _, (Int.toNat_of_nonneg (by first | omega | (simp only [ints_len] at *; omega))).symm, ints_get (by first | omega | (simp only [ints_len] at *; omega)), ?_⟩
             | refine DrawOb.mk [] (.qs [0, 1, 2, 3, 4, 6, 7] (.l 5 [7, 6] (.l 8 [] (.qs [9, 10, 11] (.l 12 [] (.qs [13, 14] .nil) .no)) .no) .no)) (by decide +kernel) ?_
             | (refine CallOb.mk [] (awake_ok) rfl (ImpL.refl _) rfl rfl ?_; rintro _ _ ⟨rfl, rfl⟩)
             | fail)
    all_goals try (conv => whnf)
    all_goals first
      | rfl
      | (exfalso; omega)
end Go.Proofs.Ytppdpfaipkjpmaa
