/-
  A text of the proofs of this seat: lemmas that the statements' proofs use; it states nothing of the program by itself beyond the contracts that its theorems bear. Conditions: those that stand in each theorem. Its short name: L5.
-/
import Derived.Test.YtppdpfaipkjpmaaK9
set_option linter.unusedVariables false
set_option linter.unusedSimpArgs false
namespace Go.Proofs.Ytppdpfaipkjpmaa
open Go.Sx Go.Cv
set_option maxRecDepth 4000
set_option maxHeartbeats 4000000
theorem all_succ {P : Nat → Prop} {t : Nat} (h : ∀ s < t, P s) : P t ↔ ∀ s < t + 1, P s :=
  ⟨fun h1 s hs => by
    by_cases e : s = t
    · subst e; exact h1
    · exact h s (by omega), fun h1 => h1 t (by omega)⟩
theorem all_not {P : Nat → Prop} {t : Nat} (h : ¬∀ s < t, P s) : false = true ↔ ∀ s < t + 1, P s :=
  ⟨fun h1 => by simp at h1, fun h1 => absurd (fun s hs => h1 s (by omega)) h⟩
theorem Greatest_ok (l : List Int) (hl : l.length ≤ 9223372036854775807) : Ctr Try.prog 7 [.psl 1 (ints l)] [] (fun r o => r = .bl true) := by
  refine fn_intro (E := env 0) tys_ok rfl rfl rfl Try.func7 (by kernel_rfl) rfl (by kernel_rfl) ?_
  have hL : (l.take 2000).length ≤ 2000 := by rw [List.length_take]; omega
  repeat' (conv => whnf
           first
           | (refine CondOb.mk (fun _ => ?_) (fun _ => ?_) <;> first | (exfalso; omega) | skip)
           | refine ArOb.fits (by first | omega | (simp only [ints_len] at *; omega)) ?_
           | refine CutOb.split ?_
           | refine Gh.mk [] ?_
           | refine And.intro (And.intro (by (simp only [List.length_append, List.length_take, List.length_drop, List.length_cons, List.length_nil, ints_len, List.length_replicate, Go.Cv.vals_len]; omega)) (by (simp only [List.length_append, List.length_take, List.length_drop, List.length_cons, List.length_nil, ints_len, List.length_replicate, Go.Cv.vals_len]; omega))) ?_
           | refine ⟨_, _, rfl, ints_get (by first | omega | (simp only [ints_len] at *; omega)), ?_⟩
           | refine ⟨_, _, (Int.toNat_of_nonneg (by first | omega | (simp only [ints_len] at *; omega))).symm, ints_get (by first | omega | (simp only [ints_len] at *; omega)), ?_⟩
           | refine DrawOb.mk [] (.qs [0, 1, 2, 3, 5, 6, 7] (.l 4 [6, 5] (.l 8 [] (.qs [9, 10, 11] .nil) .no) .no)) (by decide +kernel) ?_
           | refine DrawOb.mk [] (.qs [0, 1, 3, 4, 5] (.l 2 [4, 3] (.l 6 [] (.qs [7] .nil) .no) .no)) (by decide +kernel) ?_
           | (refine CallOb.mk [] (New_ok l hl) rfl (ImpL.refl _) rfl rfl ?_; rintro _ _ ⟨rfl, rfl⟩)
           | fail)
  all_goals try (conv => whnf)
  refine CallOb.mk [0] (Ctr.impE (Zero_ok _ 0 hL (by omega) 5 (by omega) (by omega))) rfl (ImpL.refl _) rfl rfl ?_
  rintro _ _ ⟨⟨f, k1⟩, ⟨hf, hk1⟩, rfl, rfl⟩
  dsimp only at hf hk1 ⊢
  repeat' (conv => whnf
           first
           | (refine CondOb.mk (fun _ => ?_) (fun _ => ?_) <;> first | (exfalso; omega) | skip)
           | refine ArOb.fits (by first | omega | (simp only [ints_len] at *; omega)) ?_
           | refine CutOb.split ?_
           | refine Gh.mk [] ?_
           | refine And.intro (And.intro (by (simp only [List.length_append, List.length_take, List.length_drop, List.length_cons, List.length_nil, ints_len, List.length_replicate, Go.Cv.vals_len]; omega)) (by (simp only [List.length_append, List.length_take, List.length_drop, List.length_cons, List.length_nil, ints_len, List.length_replicate, Go.Cv.vals_len]; omega))) ?_
           | refine ⟨_, _, rfl, ints_get (by first | omega | (simp only [ints_len] at *; omega)), ?_⟩
           | refine ⟨_, _, (Int.toNat_of_nonneg (by first | omega | (simp only [ints_len] at *; omega))).symm, ints_get (by first | omega | (simp only [ints_len] at *; omega)), ?_⟩
           | refine DrawOb.mk [] (.qs [0, 1, 2, 3, 5, 6, 7] (.l 4 [6, 5] (.l 8 [] (.qs [9, 10, 11] .nil) .no) .no)) (by decide +kernel) ?_
           | refine DrawOb.mk [] (.qs [0, 1, 3, 4, 5] (.l 2 [4, 3] (.l 6 [] (.qs [7] .nil) .no) .no)) (by decide +kernel) ?_
           | fail)
  all_goals try (conv => whnf)
  refine CallOb.mk [0] (Ctr.impE (Zero_ok _ k1 hL hk1 5 (by omega) (by omega))) rfl (ImpL.refl _) rfl rfl ?_
  rintro _ _ ⟨⟨g, k2⟩, ⟨hg, hk2⟩, rfl, rfl⟩
  dsimp only at hg hk2 ⊢
  repeat' (conv => whnf
           first
           | (refine CondOb.mk (fun _ => ?_) (fun _ => ?_) <;> first | (exfalso; omega) | skip)
           | refine ArOb.fits (by first | omega | (simp only [ints_len] at *; omega)) ?_
           | refine CutOb.split ?_
           | refine Gh.mk [] ?_
           | refine And.intro (And.intro (by (simp only [List.length_append, List.length_take, List.length_drop, List.length_cons, List.length_nil, ints_len, List.length_replicate, Go.Cv.vals_len]; omega)) (by (simp only [List.length_append, List.length_take, List.length_drop, List.length_cons, List.length_nil, ints_len, List.length_replicate, Go.Cv.vals_len]; omega))) ?_
           | refine ⟨_, _, rfl, ints_get (by first | omega | (simp only [ints_len] at *; omega)), ?_⟩
           | refine ⟨_, _, (Int.toNat_of_nonneg (by first | omega | (simp only [ints_len] at *; omega))).symm, ints_get (by first | omega | (simp only [ints_len] at *; omega)), ?_⟩
           | refine DrawOb.mk [] (.qs [0, 1, 2, 3, 5, 6, 7] (.l 4 [6, 5] (.l 8 [] (.qs [9, 10, 11] .nil) .no) .no)) (by decide +kernel) ?_
           | refine DrawOb.mk [] (.qs [0, 1, 3, 4, 5] (.l 2 [4, 3] (.l 6 [] (.qs [7] .nil) .no) .no)) (by decide +kernel) ?_
           | fail)
  all_goals try (conv => whnf)
  refine CallOb.mk [0] (Ctr.impE (Zero_ok _ k2 hL hk2 4 (by omega) (by omega))) rfl (ImpL.refl _) rfl rfl ?_
  rintro _ _ ⟨⟨h, k3⟩, ⟨hh, hk3⟩, rfl, rfl⟩
  dsimp only at hh hk3 ⊢
  have vf := hf.v
  have vg := hg.v
  have vh := hh.v
  obtain ⟨a, na, za⟩ := hf.n
  obtain ⟨b, nb, zb⟩ := hg.n
  obtain ⟨c, nc, zc⟩ := hh.n
  have va := za.v
  have vb := zb.v
  obtain ⟨cab1, cab, _⟩ := late_bd za zb (by omega) (by omega)
  repeat' (conv => whnf
           first
           | (refine CondOb.mk (fun _ => ?_) (fun _ => ?_) <;> first | (exfalso; omega) | skip)
           | refine ArOb.fits (by first | omega | (simp only [ints_len] at *; omega)) ?_
           | refine CutOb.split ?_
           | refine Gh.mk [] ?_
           | refine And.intro (And.intro (by (simp only [List.length_append, List.length_take, List.length_drop, List.length_cons, List.length_nil, ints_len, List.length_replicate, Go.Cv.vals_len]; omega)) (by (simp only [List.length_append, List.length_take, List.length_drop, List.length_cons, List.length_nil, ints_len, List.length_replicate, Go.Cv.vals_len]; omega))) ?_
           | refine ⟨_, _, rfl, ints_get (by first | omega | (simp only [ints_len] at *; omega)), ?_⟩
           | refine ⟨_, _, (Int.toNat_of_nonneg (by first | omega | (simp only [ints_len] at *; omega))).symm, ints_get (by first | omega | (simp only [ints_len] at *; omega)), ?_⟩
           | refine DrawOb.mk [] (.qs [0, 1, 2, 3, 5, 6, 7] (.l 4 [6, 5] (.l 8 [] (.qs [9, 10, 11] .nil) .no) .no)) (by decide +kernel) ?_
           | refine DrawOb.mk [] (.qs [0, 1, 3, 4, 5] (.l 2 [4, 3] (.l 6 [] (.qs [7] .nil) .no) .no)) (by decide +kernel) ?_
           | fail)
  all_goals try (conv => whnf)
  refine CallOb.mk [] (DAbove f g a b vf vg na nb (by omega)) rfl (ImpL.refl _) rfl rfl ?_
  rintro _ _ ⟨r1, r2, r3, r4, ⟨Fx, hFx, hr⟩, rfl, rfl⟩
  rcases hr with ⟨x, vx, nfx, hxv, rfl, rfl, rfl, rfl⟩ | ⟨rfl, rfl, rfl, rfl⟩
  · have hgr := greatest_iff za zb zc (by omega) (by omega) (by omega) (fun t => (na.cv t).symm) (fun t => (nb.cv t).symm) (fun t => (nc.cv t).symm) vh hh.f vx hFx hxv
    rw [← atMost_iff vh vx (by have := com_le vh vx; omega)] at hgr
    have hle : ∀ t, cv x t ≤ max 0 (cv f t - cv g t) := fun t => by rw [← na.cv, ← nb.cv]; exact above_le_dif za zb vx hFx hxv t
    repeat' (conv => whnf
             first
             | (refine CondOb.mk (fun _ => ?_) (fun _ => ?_) <;> first | (exfalso; omega) | skip)
             | refine ArOb.fits (by first | omega | (simp only [ints_len] at *; omega)) ?_
             | refine CutOb.split ?_
             | refine And.intro (And.intro (by (simp only [List.length_append, List.length_take, List.length_drop, List.length_cons, List.length_nil, ints_len, List.length_replicate, Go.Cv.vals_len]; omega)) (by (simp only [List.length_append, List.length_take, List.length_drop, List.length_cons, List.length_nil, ints_len, List.length_replicate, Go.Cv.vals_len]; omega))) ?_
             | refine ⟨_, _, rfl, ints_get (by first | omega | (simp only [ints_len] at *; omega)), ?_⟩
             | refine ⟨_, _, (Int.toNat_of_nonneg (by first | omega | (simp only [ints_len] at *; omega))).symm, ints_get (by first | omega | (simp only [ints_len] at *; omega)), ?_⟩
             | refine DrawOb.mk [] (.qs [0, 1, 2, 3, 5, 6, 7] (.l 4 [6, 5] (.l 8 [] (.qs [9, 10, 11] .nil) .no) .no)) (by decide +kernel) ?_
             | refine DrawOb.mk [] (.qs [0, 1, 3, 4, 5] (.l 2 [4, 3] (.l 6 [] (.qs [7] .nil) .no) .no)) (by decide +kernel) ?_
             | fail)
    all_goals try (conv => whnf)
    refine .mk [] ?_
    refine LoopOb.mk (Y := Nat) (st := fun t => ⟨[(10, i64 t), (9, .bp (∀ s < t, cv h s ≤ max 0 (cv f s - cv g s))), (7, .ptr 4 0), (6, .ptr 3 0), (5, .ptr 2 0), (4, .ptr 1 0)], [src (List.take 2000 l) k3, .box [.psl 1 (ints f.1), i64 f.2.1, i64 f.2.2], .box [.psl 1 (ints g.1), i64 g.2.1, i64 g.2.2], .box [.psl 1 (ints h.1), i64 h.2.1, i64 h.2.2], .box [.psl 1 (ints x.1), i64 x.2.1, i64 x.2.2]]⟩)
      (inv := fun t => t ≤ 3000) (fun t => 3000 - t) 0 [0, 1, 2, 3, 4] (by omega) (by refine Le.mk (by kernel_rfl) ?_ ?_ <;> repeat' (first | exact True.intro | refine And.intro ?_ ?_ | exact Imp.refl _ | exact Imp.num (by omega) | exact Imp.bl (by simp) | exact rfl)) ?_
    intro t ht
    have hlt := hle t
    repeat' (conv => whnf
             first
             | (refine CondOb.mk (fun _ => ?_) (fun _ => ?_) <;> first | (exfalso; omega) | skip)
             | refine ArOb.fits (by first | omega | (simp only [ints_len] at *; omega)) ?_
             | refine CutOb.split ?_
             | refine Gh.mk [] ?_
             | refine And.intro (And.intro (by (simp only [List.length_append, List.length_take, List.length_drop, List.length_cons, List.length_nil, ints_len, List.length_replicate, Go.Cv.vals_len]; omega)) (by (simp only [List.length_append, List.length_take, List.length_drop, List.length_cons, List.length_nil, ints_len, List.length_replicate, Go.Cv.vals_len]; omega))) ?_
             | refine ⟨_, _, rfl, ints_get (by first | omega | (simp only [ints_len] at *; omega)), ?_⟩
             | refine ⟨_, _, (Int.toNat_of_nonneg (by first | omega | (simp only [ints_len] at *; omega))).symm, ints_get (by first | omega | (simp only [ints_len] at *; omega)), ?_⟩
             | refine DrawOb.mk [] (.qs [0, 1, 2, 3, 5, 6, 7] (.l 4 [6, 5] (.l 8 [] (.qs [9, 10, 11] .nil) .no) .no)) (by decide +kernel) ?_
             | refine DrawOb.mk [] (.qs [0, 1, 3, 4, 5] (.l 2 [4, 3] (.l 6 [] (.qs [7] .nil) .no) .no)) (by decide +kernel) ?_
             | (refine CallOb.mk [] (rAt_ok h t vh (by omega)) rfl (ImpL.refl _) rfl rfl ?_; rintro _ _ ⟨rfl, rfl⟩)
             | (refine CallOb.mk [] (rAt_ok x t vx (by omega)) rfl (ImpL.refl _) rfl rfl ?_; rintro _ _ ⟨rfl, rfl⟩)
             | (refine CallOb.mk [] (ldiff_ok f g t vf vg hf.f hg.f (by omega)) rfl (ImpL.refl _) rfl rfl ?_; rintro _ _ ⟨rfl, rfl⟩)
             | (refine CallOb.mk [] (AtMost_ok h x vh vx) rfl (ImpL.refl _) rfl rfl ?_; rintro _ _ ⟨rfl, rfl⟩)
             | (refine CallOb.mk [] (awake_ok) rfl (ImpL.refl _) rfl rfl ?_; rintro _ _ ⟨rfl, rfl⟩)
             | fail)
    all_goals try (conv => whnf)
    all_goals first
      | rfl
      | (exfalso; have h3 : t = 3000 := (by omega); subst h3; exact absurd hgr (by assumption))
      | (refine ⟨t + 1, [0, 1, 2, 3, 4], by omega, by omega, ?_⟩
         refine Le.mk (by kernel_rfl) ?_ ?_ <;> repeat' (first | exact True.intro | refine And.intro ?_ ?_ | exact Imp.refl _ | exact Imp.num (by omega) | exact Imp.bp (all_succ (P := fun s => cv h s ≤ max 0 (cv f s - cv g s)) (by assumption)) | exact Imp.bl (all_not (P := fun s => cv h s ≤ max 0 (cv f s - cv g s)) (by assumption)) | exact rfl))
  · repeat' (conv => whnf
             first
             | (refine CondOb.mk (fun _ => ?_) (fun _ => ?_) <;> first | (exfalso; omega) | skip)
             | refine ArOb.fits (by first | omega | (simp only [ints_len] at *; omega)) ?_
             | refine CutOb.split ?_
             | refine Gh.mk [] ?_
             | refine And.intro (And.intro (by (simp only [List.length_append, List.length_take, List.length_drop, List.length_cons, List.length_nil, ints_len, List.length_replicate, Go.Cv.vals_len]; omega)) (by (simp only [List.length_append, List.length_take, List.length_drop, List.length_cons, List.length_nil, ints_len, List.length_replicate, Go.Cv.vals_len]; omega))) ?_
             | refine ⟨_, _, rfl, ints_get (by first | omega | (simp only [ints_len] at *; omega)), ?_⟩
             | refine ⟨_, _, (Int.toNat_of_nonneg (by first | omega | (simp only [ints_len] at *; omega))).symm, ints_get (by first | omega | (simp only [ints_len] at *; omega)), ?_⟩
             | refine DrawOb.mk [] (.qs [0, 1, 2, 3, 5, 6, 7] (.l 4 [6, 5] (.l 8 [] (.qs [9, 10, 11] .nil) .no) .no)) (by decide +kernel) ?_
             | refine DrawOb.mk [] (.qs [0, 1, 3, 4, 5] (.l 2 [4, 3] (.l 6 [] (.qs [7] .nil) .no) .no)) (by decide +kernel) ?_
             | (refine CallOb.mk [] (awake_ok) rfl (ImpL.refl _) rfl rfl ?_; rintro _ _ ⟨rfl, rfl⟩)
             | fail)
    all_goals try (conv => whnf)
    all_goals first
      | rfl
      | (exfalso; omega)
end Go.Proofs.Ytppdpfaipkjpmaa
