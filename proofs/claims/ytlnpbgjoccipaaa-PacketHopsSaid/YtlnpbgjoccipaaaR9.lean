/-
  A text of the proofs of this seat: lemmas that the statements' proofs use; it states nothing of the program by itself beyond the contracts that its theorems bear. Conditions: those that stand in each theorem. Its short name: R9.
-/
import Derived.Test.YtlnpbgjoccipaaaR8
import Derived.Test.YtlnpbgjoccipaaaPl
set_option linter.unusedVariables false
set_option linter.unusedSimpArgs false
namespace Go.Proofs.Ytlnpbgjoccipaaa
open Go.Sx Go.Cv
set_option maxRecDepth 4000
set_option maxHeartbeats 2000000
theorem vc_bd {a : C3} (h : VC a) {t : Nat} (ht : t ≤ 1048576) : 0 ≤ cv a t ∧ cv a t ≤ 6000000000000000000 := val_bd (bd_of h) ht
theorem rAt_ok (a : C3) (t : Nat) (ha : VC a) (ht : t ≤ 1048576) : Ctr Try.prog 32 [crv a.1 a.2.1 a.2.2, i64 t] [] (fun r o => o = [] ∧ r = i64 (cv a t)) :=
  (At_ok a.1 a.2.1 a.2.2 t (bd_of ha) (by omega) (by omega)).mono (fun r o ⟨h1, h2⟩ => ⟨h1, by rw [h2]; simp [cv]⟩)
theorem com_le {f g : C3} (hf : VC f) (hg : VC g) : com f g ≤ 14400 := by
  have h1 := hf.p2
  have h2 := hg.p2
  have h3 : com f g ≤ f.2.1 * g.2.1 := Nat.le_of_dvd (Nat.mul_pos hf.p1 hg.p1) (Nat.lcm_dvd_mul _ _)
  have h4 : f.2.1 * g.2.1 ≤ 120 * 120 := Nat.mul_le_mul h1 h2
  omega
theorem window_ok (f g : C3) (hf : VC f) (hg : VC g) : Ctr Try.prog 93 [crv f.1 f.2.1 f.2.2, crv g.1 g.2.1 g.2.2] [] (fun r o => o = [] ∧ r = .tup [i64 (win f g), i64 (com f g), i64 (grw f g)]) := by
  have hl := com_le hf hg
  have h1 := hf.p1
  have h2 := hg.p1
  have h3 := hf.p2
  have h4 := hg.p2
  have h5 := hf.n2
  have h6 := hg.n2
  have e1 : ((com f g : Nat) : Int).tdiv f.2.1 = ((com f g / f.2.1 : Nat) : Int) := by rw [Int.tdiv_eq_ediv_of_nonneg (by omega)]; rfl
  have e2 : ((com f g : Nat) : Int).tdiv g.2.1 = ((com f g / g.2.1 : Nat) : Int) := by rw [Int.tdiv_eq_ediv_of_nonneg (by omega)]; rfl
  have d1 : com f g / f.2.1 ≤ com f g := Nat.div_le_self _ _
  have d2 : com f g / g.2.1 ≤ com f g := Nat.div_le_self _ _
  have hg : grw f g = f.2.2 * ((com f g / f.2.1 : Nat) : Int) - g.2.2 * ((com f g / g.2.1 : Nat) : Int) := rfl
  have q1 := hf.q0
  have q2 := hf.q1
  have q3 : 0 ≤ g.2.2 := by have := ‹VC g›.q0; exact this
  have q4 : g.2.2 ≤ 1073741824 := by have := ‹VC g›.q1; exact this
  rw [hg]
  refine fn_intro (E := env 0) tys_ok rfl rfl rfl Try.func93 (by kernel_rfl) rfl (by kernel_rfl) ?_
  repeat' (conv => whnf
           first | (refine CondOb.mk (fun _ => ?_) (fun _ => ?_) <;> first | (exfalso; omega) | skip) | refine ArOb.fits (by first | omega | (simp only [ints_len] at *; omega)) ?_ | refine LitOb.vec ?_ | refine MakeOb.vec ?_ | refine AllocOb.box ?_ | refine AsgOb.vec ?_ | refine AggOb.mk (by decide +kernel) ?_ | refine ArU.fits (by first | omega | (simp only [ints_len] at *; omega)) ?_ | refine ArB.fits (by first | omega | (simp only [ints_len] at *; omega)) ?_ | refine CutOb.split ?_ | refine Gh.mk [] ?_ | refine And.intro (And.intro (by (simp only [List.length_append, List.length_take, List.length_drop, List.length_cons, List.length_nil, ints_len, List.length_replicate, Go.Cv.vals_len]; omega)) (by (simp only [List.length_append, List.length_take, List.length_drop, List.length_cons, List.length_nil, ints_len, List.length_replicate, Go.Cv.vals_len]; omega))) ?_ | refine ⟨_, _, rfl, ints_get (by first | omega | (simp only [ints_len] at *; omega)), ?_⟩ | refine ⟨_, _, (Int.toNat_of_nonneg (by first | omega | (simp only [ints_len] at *; omega))).symm, ints_get (by first | omega | (simp only [ints_len] at *; omega)), ?_⟩ | refine DrawOb.mk [] (.qs [0, 1, 2, 3, 4, 5, 6, 7, 8, 9, 10] (.l 11 [4, 1] (.qs [12, 13] .nil) .no)) (by decide +kernel) ?_ | refine DrawOb.mk [] (.qs [0, 1, 2, 3, 4, 5, 6, 7, 8, 9, 10, 11, 12, 13, 14, 15, 16, 17, 18, 19] .nil) (by decide +kernel) ?_ | (refine CallOb.mk [] (Lcm_ok f.2.1 g.2.1 h1 h2 (by omega) (by omega)) rfl (ImpL.refl _) rfl rfl ?_; rintro _ _ ⟨rfl, rfl⟩) | fail)
  all_goals try (conv => whnf)
  generalize com f g / f.2.1 = k1 at *
  generalize com f g / g.2.1 = k2 at *
  have m1 := mul_bd (a := f.2.2) (b := (k1 : Int)) (A := 1073741824) (B := 14400) (by omega) (by omega) (by omega) (by omega)
  have m2 := mul_bd (a := g.2.2) (b := (k2 : Int)) (A := 1073741824) (B := 14400) (by omega) (by omega) (by omega) (by omega)
  refine ⟨by omega, ?_⟩
  have el : ((Nat.lcm f.2.1 g.2.1 : Nat) : Int) = ((com f g : Nat) : Int) := rfl
  rw [el, e1]
  repeat' (conv => whnf
           first | (refine CondOb.mk (fun _ => ?_) (fun _ => ?_) <;> first | (exfalso; omega) | skip) | refine ArOb.fits (by first | omega | (simp only [ints_len] at *; omega)) ?_ | refine LitOb.vec ?_ | refine MakeOb.vec ?_ | refine AllocOb.box ?_ | refine AsgOb.vec ?_ | refine AggOb.mk (by decide +kernel) ?_ | refine ArU.fits (by first | omega | (simp only [ints_len] at *; omega)) ?_ | refine ArB.fits (by first | omega | (simp only [ints_len] at *; omega)) ?_ | refine CutOb.split ?_ | refine Gh.mk [] ?_ | refine And.intro (And.intro (by (simp only [List.length_append, List.length_take, List.length_drop, List.length_cons, List.length_nil, ints_len, List.length_replicate, Go.Cv.vals_len]; omega)) (by (simp only [List.length_append, List.length_take, List.length_drop, List.length_cons, List.length_nil, ints_len, List.length_replicate, Go.Cv.vals_len]; omega))) ?_ | refine ⟨_, _, rfl, ints_get (by first | omega | (simp only [ints_len] at *; omega)), ?_⟩ | refine ⟨_, _, (Int.toNat_of_nonneg (by first | omega | (simp only [ints_len] at *; omega))).symm, ints_get (by first | omega | (simp only [ints_len] at *; omega)), ?_⟩ | refine DrawOb.mk [] (.qs [0, 1, 2, 3, 4, 5, 6, 7, 8, 9, 10] (.l 11 [4, 1] (.qs [12, 13] .nil) .no)) (by decide +kernel) ?_ | refine DrawOb.mk [] (.qs [0, 1, 2, 3, 4, 5, 6, 7, 8, 9, 10, 11, 12, 13, 14, 15, 16, 17, 18, 19] .nil) (by decide +kernel) ?_ | fail)
  all_goals try (conv => whnf)
  refine ⟨by omega, ?_⟩
  rw [e2]
  repeat' (conv => whnf
           first | (refine CondOb.mk (fun _ => ?_) (fun _ => ?_) <;> first | (exfalso; omega) | skip) | refine ArOb.fits (by first | omega | (simp only [ints_len] at *; omega)) ?_ | refine LitOb.vec ?_ | refine MakeOb.vec ?_ | refine AllocOb.box ?_ | refine AsgOb.vec ?_ | refine AggOb.mk (by decide +kernel) ?_ | refine ArU.fits (by first | omega | (simp only [ints_len] at *; omega)) ?_ | refine ArB.fits (by first | omega | (simp only [ints_len] at *; omega)) ?_ | refine CutOb.split ?_ | refine Gh.mk [] ?_ | refine And.intro (And.intro (by (simp only [List.length_append, List.length_take, List.length_drop, List.length_cons, List.length_nil, ints_len, List.length_replicate, Go.Cv.vals_len]; omega)) (by (simp only [List.length_append, List.length_take, List.length_drop, List.length_cons, List.length_nil, ints_len, List.length_replicate, Go.Cv.vals_len]; omega))) ?_ | refine ⟨_, _, rfl, ints_get (by first | omega | (simp only [ints_len] at *; omega)), ?_⟩ | refine ⟨_, _, (Int.toNat_of_nonneg (by first | omega | (simp only [ints_len] at *; omega))).symm, ints_get (by first | omega | (simp only [ints_len] at *; omega)), ?_⟩ | refine DrawOb.mk [] (.qs [0, 1, 2, 3, 4, 5, 6, 7, 8, 9, 10] (.l 11 [4, 1] (.qs [12, 13] .nil) .no)) (by decide +kernel) ?_ | refine DrawOb.mk [] (.qs [0, 1, 2, 3, 4, 5, 6, 7, 8, 9, 10, 11, 12, 13, 14, 15, 16, 17, 18, 19] .nil) (by decide +kernel) ?_ | fail)
  all_goals try (conv => whnf)
  refine ⟨rfl, ?_⟩
  simp only [oneS, ints_len, win]
  rw [show max (f.1.length : Int) g.1.length = ((max f.1.length g.1.length : Nat) : Int) by omega]
theorem above_ok (f g : C3) (t : Nat) (hf : VC f) (hg : VC g) (ht : t ≤ 1048576) : Ctr Try.prog 94 [crv f.1 f.2.1 f.2.2, crv g.1 g.2.1 g.2.2, i64 t] [] (fun r o => o = [] ∧ r = i64 (abv f g t)) := by
  have h1 := hf.inf_iff ht
  have h2 := hg.inf_iff ht
  have b1 := vc_bd hf ht
  have b2 := vc_bd hg ht
  have hd : abv f g t = if cv g t = INF then 0 else if cv f t = INF then 1 else cv f t - cv g t := by
    unfold abv cv
    simp only [h1, h2]
  rw [hd]
  refine fn_intro (E := env 0) tys_ok rfl rfl rfl Try.func94 (by kernel_rfl) rfl (by kernel_rfl) ?_
  repeat' (conv => whnf
           first | refine CondOb.mk (fun _ => ?_) (fun _ => ?_) | refine ArOb.fits (by first | omega | (simp only [ints_len] at *; omega)) ?_ | refine LitOb.vec ?_ | refine MakeOb.vec ?_ | refine AllocOb.box ?_ | refine AsgOb.vec ?_ | refine AggOb.mk (by decide +kernel) ?_ | refine ArU.fits (by first | omega | (simp only [ints_len] at *; omega)) ?_ | refine ArB.fits (by first | omega | (simp only [ints_len] at *; omega)) ?_ | refine CutOb.split ?_ | refine Gh.mk [] ?_ | refine And.intro (And.intro (by (simp only [List.length_append, List.length_take, List.length_drop, List.length_cons, List.length_nil, ints_len, List.length_replicate, Go.Cv.vals_len]; omega)) (by (simp only [List.length_append, List.length_take, List.length_drop, List.length_cons, List.length_nil, ints_len, List.length_replicate, Go.Cv.vals_len]; omega))) ?_ | refine ⟨_, _, rfl, ints_get (by first | omega | (simp only [ints_len] at *; omega)), ?_⟩ | refine ⟨_, _, (Int.toNat_of_nonneg (by first | omega | (simp only [ints_len] at *; omega))).symm, ints_get (by first | omega | (simp only [ints_len] at *; omega)), ?_⟩ | refine DrawOb.mk [] (.qs [0, 1, 3, 4] (.l 2 [3] (.l 5 [] (.qs [6, 7] .nil) .no) .no)) (by decide +kernel) ?_ | (refine CallOb.mk [] (rAt_ok f t hf ht) rfl (ImpL.refl _) rfl rfl ?_; rintro _ _ ⟨rfl, rfl⟩) | (refine CallOb.mk [] (rAt_ok g t hg ht) rfl (ImpL.refl _) rfl rfl ?_; rintro _ _ ⟨rfl, rfl⟩) | fail)
  all_goals try (conv => whnf)
  all_goals
    refine ⟨rfl, ?_⟩
    simp only [oneS]
    first
      | contradiction
      | rw [if_pos (by assumption)]
      | rw [if_neg (by assumption), if_pos (by assumption)]
      | rw [if_neg (by assumption), if_neg (by assumption)]
theorem RFinV_ok (a : C3) (ha : VC a) : Ctr Try.prog 78 [crv a.1 a.2.1 a.2.2] [] (fun r o => o = [] ∧ r = .bp (FinC a)) := RFin_ok a ha
theorem RVal_ok (a : C3) (ha : VC a) : Ctr Try.prog 40 [crv a.1 a.2.1 a.2.2] [] (fun r o => o = [] ∧ r = .bl true) :=
  Ctr.imp ((Valid_ok a.1 a.2.1 a.2.2).mono (fun r o ⟨h1, h2⟩ => ⟨h1, by rw [h2]; exact Imp.bpl ⟨fun _ => rfl, fun _ => ha.valid⟩⟩))
theorem cv_bd2 {a : C3} (ha : VC a) {t : Nat} (ht : t ≤ 15000) (hi : ¬infAt a.1 t) : 0 ≤ cv a t ∧ cv a t ≤ 17000000000000 := by
  refine ⟨cv_nonneg ha t, ?_⟩
  have n1 := ha.n1
  by_cases hf : FinC a
  · have h1 := ha.val_le hf t
    have h2 : ((t + 1 : Nat) : Int) * a.2.2 ≤ 15001 * 1073741824 := Int.mul_le_mul (by omega) ha.q1 ha.q0 (by omega)
    unfold cv; omega
  · have hlt : t < a.1.length - 1 := by
      rcases Nat.lt_or_ge t (a.1.length - 1) with h | h
      · exact h
      · exact absurd (inf_late hf h) hi
    unfold cv
    rw [val_lt (by omega)]
    have h1 := ha.v t (by omega)
    unfold infAt at hi
    rw [Nat.min_eq_left (by omega)] at hi
    simp only [INF] at *
    omega
theorem abv_bd {f g : C3} (hf : VC f) (hg : VC g) {t : Nat} (ht : t ≤ 15000) : -17000000000000 ≤ abv f g t ∧ abv f g t ≤ 17000000000000 := by
  unfold abv
  by_cases h : infAt g.1 t
  · rw [if_pos h]; omega
  · rw [if_neg h]
    by_cases h' : infAt f.1 t
    · rw [if_pos h']; omega
    · rw [if_neg h']
      have := cv_bd2 hf ht h'
      have := cv_bd2 hg ht h
      omega
def ExcP (f g : C3) (x : Int × Prop) : Prop := x.2 ↔ ¬AtMostP f g
theorem Exceeds_ok (f g : C3) (hf : VC f) (hg : VC g) : Ctr Try.prog 71 [crv f.1 f.2.1 f.2.2, crv g.1 g.2.1 g.2.2] [] (fun r o => ∃ x : Int × Prop, ExcP f g x ∧ o = [] ∧ Imp r (.tup [i64 x.1, .bp x.2, i64 0])) := by
  have hl := com_le hf hg
  have hl1 := com_pos hf hg
  have h5 := hf.n2
  have h6 := hg.n2
  have hw : win f g ≤ 400 := by unfold win; omega
  refine fn_intro (E := env 0) tys_ok rfl rfl rfl Try.func71 (by kernel_rfl) rfl (by kernel_rfl) ?_
  repeat' (conv => whnf
           first | (refine CondOb.mk (fun _ => ?_) (fun _ => ?_) <;> first | (exfalso; omega) | skip) | refine ArOb.fits (by first | omega | (simp only [ints_len] at *; omega)) ?_ | refine LitOb.vec ?_ | refine MakeOb.vec ?_ | refine AllocOb.box ?_ | refine AsgOb.vec ?_ | refine AggOb.mk (by decide +kernel) ?_ | refine ArU.fits (by first | omega | (simp only [ints_len] at *; omega)) ?_ | refine ArB.fits (by first | omega | (simp only [ints_len] at *; omega)) ?_ | refine CutOb.split ?_ | refine Gh.mk [] ?_ | refine And.intro (And.intro (by (simp only [List.length_append, List.length_take, List.length_drop, List.length_cons, List.length_nil, ints_len, List.length_replicate, Go.Cv.vals_len]; omega)) (by (simp only [List.length_append, List.length_take, List.length_drop, List.length_cons, List.length_nil, ints_len, List.length_replicate, Go.Cv.vals_len]; omega))) ?_ | refine ⟨_, _, rfl, ints_get (by first | omega | (simp only [ints_len] at *; omega)), ?_⟩ | refine ⟨_, _, (Int.toNat_of_nonneg (by first | omega | (simp only [ints_len] at *; omega))).symm, ints_get (by first | omega | (simp only [ints_len] at *; omega)), ?_⟩ | (refine CallOb.mk [] (RVal_ok f hf) rfl (ImpL.refl _) rfl rfl ?_; rintro _ _ ⟨rfl, rfl⟩) | (refine CallOb.mk [] (RVal_ok g hg) rfl (ImpL.refl _) rfl rfl ?_; rintro _ _ ⟨rfl, rfl⟩) | (refine CallOb.mk [] (window_ok f g hf hg) rfl (ImpL.refl _) rfl rfl ?_; rintro _ _ ⟨rfl, rfl⟩) | fail)
  all_goals try (conv => whnf)
  have hab : ∀ t, t ≤ 15000 → -17000000000000 ≤ abv f g t ∧ abv f g t ≤ 17000000000000 := fun t ht => abv_bd hf hg ht
  refine LoopOb.mk (Y := Nat) (st := fun t => ⟨[(10, i64 t), (9, i64 (grw f g)), (8, i64 (com f g)), (7, i64 (win f g)), (3, .ptr 1 0), (2, .ptr 0 0)], [.box [.psl 1 (ints f.1), i64 f.2.1, i64 f.2.2], .box [.psl 1 (ints g.1), i64 g.2.1, i64 g.2.2]]⟩)
    (inv := fun t => t ≤ win f g + com f g ∧ ∀ u < t, abv f g u ≤ 0) (fun t => win f g + com f g - t) 0 [0, 1] ⟨by omega, fun u h => by omega⟩ (by (refine Le.mk (by kernel_rfl) ?_ ?_ <;> repeat' (first | exact True.intro | refine And.intro ?_ ?_ | exact Imp.refl _ | exact Imp.any _ | exact Imp.num (by first | omega | simp only [ints_len]) | exact rfl | exact Imp.bl (by simp)))) ?_
  rintro t ⟨h1, h2⟩
  repeat' (conv => whnf
           first | (refine CondOb.mk (fun _ => ?_) (fun _ => ?_) <;> first | (exfalso; omega) | skip) | refine ArOb.fits (by first | omega | (simp only [ints_len] at *; omega)) ?_ | refine LitOb.vec ?_ | refine MakeOb.vec ?_ | refine AllocOb.box ?_ | refine AsgOb.vec ?_ | refine AggOb.mk (by decide +kernel) ?_ | refine ArU.fits (by first | omega | (simp only [ints_len] at *; omega)) ?_ | refine ArB.fits (by first | omega | (simp only [ints_len] at *; omega)) ?_ | refine CutOb.split ?_ | refine And.intro (And.intro (by (simp only [List.length_append, List.length_take, List.length_drop, List.length_cons, List.length_nil, ints_len, List.length_replicate, Go.Cv.vals_len]; omega)) (by (simp only [List.length_append, List.length_take, List.length_drop, List.length_cons, List.length_nil, ints_len, List.length_replicate, Go.Cv.vals_len]; omega))) ?_ | refine ⟨_, _, rfl, ints_get (by first | omega | (simp only [ints_len] at *; omega)), ?_⟩ | refine ⟨_, _, (Int.toNat_of_nonneg (by first | omega | (simp only [ints_len] at *; omega))).symm, ints_get (by first | omega | (simp only [ints_len] at *; omega)), ?_⟩ | fail)
  all_goals try (conv => whnf)
  · refine .mk [] ?_
    refine CallOb.mk [] (above_ok f g t hf hg (by omega)) rfl (ImpL.refl _) rfl rfl ?_
    rintro _ _ ⟨rfl, rfl⟩
    repeat' (conv => whnf
             first | (refine CondOb.mk (fun _ => ?_) (fun _ => ?_) <;> first | (exfalso; omega) | skip) | refine ArOb.fits (by first | omega | (simp only [ints_len] at *; omega)) ?_ | refine LitOb.vec ?_ | refine MakeOb.vec ?_ | refine AllocOb.box ?_ | refine AsgOb.vec ?_ | refine AggOb.mk (by decide +kernel) ?_ | refine ArU.fits (by first | omega | (simp only [ints_len] at *; omega)) ?_ | refine ArB.fits (by first | omega | (simp only [ints_len] at *; omega)) ?_ | refine CutOb.split ?_ | refine And.intro (And.intro (by (simp only [List.length_append, List.length_take, List.length_drop, List.length_cons, List.length_nil, ints_len, List.length_replicate, Go.Cv.vals_len]; omega)) (by (simp only [List.length_append, List.length_take, List.length_drop, List.length_cons, List.length_nil, ints_len, List.length_replicate, Go.Cv.vals_len]; omega))) ?_ | refine ⟨_, _, rfl, ints_get (by first | omega | (simp only [ints_len] at *; omega)), ?_⟩ | refine ⟨_, _, (Int.toNat_of_nonneg (by first | omega | (simp only [ints_len] at *; omega))).symm, ints_get (by first | omega | (simp only [ints_len] at *; omega)), ?_⟩ | fail)
    all_goals try (conv => whnf)
    · refine .mk [] ?_
      have hpos : 0 < abv f g t := by assumption
      exact ⟨(t, True), ⟨fun _ h => (by have := h.1 t (by omega); omega), fun _ => trivial⟩, rfl, Imp.tup ⟨Imp.refl _, Imp.bl ⟨fun _ => trivial, fun _ => rfl⟩, Imp.refl _, trivial⟩⟩
    · refine .mk [] ?_
      refine ⟨t + 1, [0, 1], ⟨by omega, fun u hu => ?_⟩, by omega, by (refine Le.mk (by kernel_rfl) ?_ ?_ <;> repeat' (first | exact True.intro | refine And.intro ?_ ?_ | exact Imp.refl _ | exact Imp.any _ | exact Imp.num (by first | omega | simp only [ints_len]) | exact rfl | exact Imp.bl (by simp)))⟩
      by_cases e : u = t
      · subst e; omega
      · exact h2 u (by omega)
  have hall : ∀ u, u < win f g + com f g → abv f g u ≤ 0 := fun u hu => h2 u (by omega)
  have hno : ¬(FinC f ∧ FinC g ∧ 0 < grw f g) → AtMostP f g := fun h => ⟨hall, h⟩
  repeat' (conv => whnf
           first | (refine CondOb.mk (fun _ => ?_) (fun _ => ?_) <;> first | (exfalso; omega) | skip) | refine ArOb.fits (by first | omega | (simp only [ints_len] at *; omega)) ?_ | refine LitOb.vec ?_ | refine MakeOb.vec ?_ | refine AllocOb.box ?_ | refine AsgOb.vec ?_ | refine AggOb.mk (by decide +kernel) ?_ | refine ArU.fits (by first | omega | (simp only [ints_len] at *; omega)) ?_ | refine ArB.fits (by first | omega | (simp only [ints_len] at *; omega)) ?_ | refine CutOb.split ?_ | refine Gh.mk [] ?_ | refine And.intro (And.intro (by (simp only [List.length_append, List.length_take, List.length_drop, List.length_cons, List.length_nil, ints_len, List.length_replicate, Go.Cv.vals_len]; omega)) (by (simp only [List.length_append, List.length_take, List.length_drop, List.length_cons, List.length_nil, ints_len, List.length_replicate, Go.Cv.vals_len]; omega))) ?_ | refine ⟨_, _, rfl, ints_get (by first | omega | (simp only [ints_len] at *; omega)), ?_⟩ | refine ⟨_, _, (Int.toNat_of_nonneg (by first | omega | (simp only [ints_len] at *; omega))).symm, ints_get (by first | omega | (simp only [ints_len] at *; omega)), ?_⟩ | (refine CallOb.mk [] (RFinV_ok f hf) rfl (ImpL.refl _) rfl rfl ?_; rintro _ _ ⟨rfl, rfl⟩) | (refine CallOb.mk [] (RFinV_ok g hg) rfl (ImpL.refl _) rfl rfl ?_; rintro _ _ ⟨rfl, rfl⟩) | fail)
  all_goals try (conv => whnf)
  iterate 3
    · refine ⟨(0, False), ⟨fun h => h.elim, fun h => h (hno (fun h3 => ?_))⟩, rfl, Imp.tup ⟨Imp.refl _, Imp.bl ⟨fun h => (by cases h), fun h => h.elim⟩, Imp.refl _, trivial⟩⟩
      obtain ⟨h4, h5, h6⟩ := h3
      first
        | contradiction
        | omega
  have ff : FinC f := Classical.not_not.1 (by assumption)
  have fg : FinC g := Classical.not_not.1 (by assumption)
  have hgr : 0 < grw f g := by omega
  have hg1 : grw f g ≤ 1000000000000000000 := by
    have d1 : com f g / f.2.1 ≤ com f g := Nat.div_le_self _ _
    have m1 := mul_bd (a := f.2.2) (b := ((com f g / f.2.1 : Nat) : Int)) (A := 1073741824) (B := 14400) hf.q0 hf.q1 (Int.natCast_nonneg _) (by omega)
    have m2 := Int.mul_nonneg hg.q0 (Int.natCast_nonneg (com f g / g.2.1))
    unfold grw; omega
  refine LoopOb.mk (Y := Nat × Int) (st := fun y => ⟨[(12, i64 y.1), (11, i64 y.2), (9, i64 (grw f g)), (8, i64 (com f g)), (7, i64 (win f g)), (3, .ptr 1 0), (2, .ptr 0 0)], [.box [.psl 1 (ints f.1), i64 f.2.1, i64 f.2.2], .box [.psl 1 (ints g.1), i64 g.2.1, i64 g.2.2]]⟩)
    (inv := fun y => win f g ≤ y.1 ∧ y.1 ≤ win f g + com f g) (fun y => win f g + com f g - y.1) (win f g, -1) [0, 1] ⟨by omega, by omega⟩ (by (refine Le.mk (by kernel_rfl) ?_ ?_ <;> repeat' (first | exact True.intro | refine And.intro ?_ ?_ | exact Imp.refl _ | exact Imp.any _ | exact Imp.num (by first | omega | simp only [ints_len]) | exact rfl | exact Imp.bl (by simp)))) ?_
  rintro ⟨t, le⟩ ⟨h1, h2⟩
  dsimp only at h1 h2 ⊢
  repeat' (conv => whnf
           first | (refine CondOb.mk (fun _ => ?_) (fun _ => ?_) <;> first | (exfalso; omega) | skip) | refine ArOb.fits (by first | omega | (simp only [ints_len] at *; omega)) ?_ | refine LitOb.vec ?_ | refine MakeOb.vec ?_ | refine AllocOb.box ?_ | refine AsgOb.vec ?_ | refine AggOb.mk (by decide +kernel) ?_ | refine ArU.fits (by first | omega | (simp only [ints_len] at *; omega)) ?_ | refine ArB.fits (by first | omega | (simp only [ints_len] at *; omega)) ?_ | refine CutOb.split ?_ | refine And.intro (And.intro (by (simp only [List.length_append, List.length_take, List.length_drop, List.length_cons, List.length_nil, ints_len, List.length_replicate, Go.Cv.vals_len]; omega)) (by (simp only [List.length_append, List.length_take, List.length_drop, List.length_cons, List.length_nil, ints_len, List.length_replicate, Go.Cv.vals_len]; omega))) ?_ | refine ⟨_, _, rfl, ints_get (by first | omega | (simp only [ints_len] at *; omega)), ?_⟩ | refine ⟨_, _, (Int.toNat_of_nonneg (by first | omega | (simp only [ints_len] at *; omega))).symm, ints_get (by first | omega | (simp only [ints_len] at *; omega)), ?_⟩ | fail)
  all_goals try (conv => whnf)
  · refine .mk [] ?_
    refine CallOb.mk [] (above_ok f g t hf hg (by omega)) rfl (ImpL.refl _) rfl rfl ?_
    rintro _ _ ⟨rfl, rfl⟩
    have hb := hab t (by omega)
    have hb0 := hall t (by omega)
    repeat' (conv => whnf
             first | (refine CondOb.mk (fun _ => ?_) (fun _ => ?_) <;> first | (exfalso; omega) | skip) | refine ArOb.fits (by first | omega | (simp only [ints_len] at *; omega)) ?_ | refine LitOb.vec ?_ | refine MakeOb.vec ?_ | refine AllocOb.box ?_ | refine AsgOb.vec ?_ | refine AggOb.mk (by decide +kernel) ?_ | refine ArU.fits (by first | omega | (simp only [ints_len] at *; omega)) ?_ | refine ArB.fits (by first | omega | (simp only [ints_len] at *; omega)) ?_ | refine CutOb.split ?_ | refine Gh.mk [] ?_ | refine And.intro (And.intro (by (simp only [List.length_append, List.length_take, List.length_drop, List.length_cons, List.length_nil, ints_len, List.length_replicate, Go.Cv.vals_len]; omega)) (by (simp only [List.length_append, List.length_take, List.length_drop, List.length_cons, List.length_nil, ints_len, List.length_replicate, Go.Cv.vals_len]; omega))) ?_ | refine ⟨_, _, rfl, ints_get (by first | omega | (simp only [ints_len] at *; omega)), ?_⟩ | refine ⟨_, _, (Int.toNat_of_nonneg (by first | omega | (simp only [ints_len] at *; omega))).symm, ints_get (by first | omega | (simp only [ints_len] at *; omega)), ?_⟩ | fail)
    all_goals try (conv => whnf)
    have hd := tdiv_bd (a := 0 - abv f g t) (b := grw f g) (by omega) (by omega)
    have hm := mul_bd (a := (0 - abv f g t) / grw f g + 1) (b := ((com f g : Nat) : Int)) (A := 17000000000001) (B := 14400) (by omega) (by omega) (by omega) (by omega)
    refine ⟨by omega, ?_⟩
    rw [hd.1]
    repeat' (conv => whnf
             first | (refine CondOb.mk (fun _ => ?_) (fun _ => ?_) <;> first | (exfalso; omega) | skip) | refine ArOb.fits (by first | omega | (simp only [ints_len] at *; omega)) ?_ | refine LitOb.vec ?_ | refine MakeOb.vec ?_ | refine AllocOb.box ?_ | refine AsgOb.vec ?_ | refine AggOb.mk (by decide +kernel) ?_ | refine ArU.fits (by first | omega | (simp only [ints_len] at *; omega)) ?_ | refine ArB.fits (by first | omega | (simp only [ints_len] at *; omega)) ?_ | refine CutOb.split ?_ | refine Gh.mk [] ?_ | refine And.intro (And.intro (by (simp only [List.length_append, List.length_take, List.length_drop, List.length_cons, List.length_nil, ints_len, List.length_replicate, Go.Cv.vals_len]; omega)) (by (simp only [List.length_append, List.length_take, List.length_drop, List.length_cons, List.length_nil, ints_len, List.length_replicate, Go.Cv.vals_len]; omega))) ?_ | refine ⟨_, _, rfl, ints_get (by first | omega | (simp only [ints_len] at *; omega)), ?_⟩ | refine ⟨_, _, (Int.toNat_of_nonneg (by first | omega | (simp only [ints_len] at *; omega))).symm, ints_get (by first | omega | (simp only [ints_len] at *; omega)), ?_⟩ | fail)
    all_goals try (conv => whnf)
    all_goals exact ⟨(t + 1, _), [0, 1], ⟨by omega, by simp only; omega⟩, by simp only; omega, by (refine Le.mk (by kernel_rfl) ?_ ?_ <;> repeat' (first | exact True.intro | refine And.intro ?_ ?_ | exact Imp.refl _ | exact Imp.any _ | exact Imp.num (by first | omega | simp only [ints_len]) | exact rfl | exact Imp.bl (by simp)))⟩
  · refine .mk [] ?_
    exact ⟨(le, True), ⟨fun _ h => h.2 ⟨ff, fg, hgr⟩, fun _ => trivial⟩, rfl, Imp.tup ⟨Imp.refl _, Imp.bl ⟨fun _ => trivial, fun _ => rfl⟩, Imp.refl _, trivial⟩⟩
theorem AtMost_ok (f g : C3) (hf : VC f) (hg : VC g) : Ctr Try.prog 33 [crv f.1 f.2.1 f.2.2, crv g.1 g.2.1 g.2.2] [] (fun r o => o = [] ∧ r = .bp (AtMostP f g)) := by
  refine Ctr.imp ?_
  refine fn_intro (E := env 0) tys_ok rfl rfl rfl Try.func33 (by kernel_rfl) rfl (by kernel_rfl) ?_
  repeat' (conv => whnf
           first | (refine CondOb.mk (fun _ => ?_) (fun _ => ?_) <;> first | (exfalso; omega) | skip) | refine ArOb.fits (by first | omega | (simp only [ints_len] at *; omega)) ?_ | refine LitOb.vec ?_ | refine MakeOb.vec ?_ | refine AllocOb.box ?_ | refine AsgOb.vec ?_ | refine AggOb.mk (by decide +kernel) ?_ | refine ArU.fits (by first | omega | (simp only [ints_len] at *; omega)) ?_ | refine ArB.fits (by first | omega | (simp only [ints_len] at *; omega)) ?_ | refine CutOb.split ?_ | refine Gh.mk [] ?_ | refine And.intro (And.intro (by (simp only [List.length_append, List.length_take, List.length_drop, List.length_cons, List.length_nil, ints_len, List.length_replicate, Go.Cv.vals_len]; omega)) (by (simp only [List.length_append, List.length_take, List.length_drop, List.length_cons, List.length_nil, ints_len, List.length_replicate, Go.Cv.vals_len]; omega))) ?_ | refine ⟨_, _, rfl, ints_get (by first | omega | (simp only [ints_len] at *; omega)), ?_⟩ | refine ⟨_, _, (Int.toNat_of_nonneg (by first | omega | (simp only [ints_len] at *; omega))).symm, ints_get (by first | omega | (simp only [ints_len] at *; omega)), ?_⟩ | fail)
  all_goals try (conv => whnf)
  refine CallOb.mk [] (Ctr.impE (Exceeds_ok f g hf hg)) rfl (ImpL.refl _) rfl rfl ?_
  rintro _ _ ⟨⟨x1, x2⟩, hx, rfl, rfl⟩
  dsimp only [ExcP] at hx ⊢
  repeat' (conv => whnf
           first | (refine CondOb.mk (fun _ => ?_) (fun _ => ?_) <;> first | (exfalso; omega) | skip) | refine ArOb.fits (by first | omega | (simp only [ints_len] at *; omega)) ?_ | refine LitOb.vec ?_ | refine MakeOb.vec ?_ | refine AllocOb.box ?_ | refine AsgOb.vec ?_ | refine AggOb.mk (by decide +kernel) ?_ | refine ArU.fits (by first | omega | (simp only [ints_len] at *; omega)) ?_ | refine ArB.fits (by first | omega | (simp only [ints_len] at *; omega)) ?_ | refine CutOb.split ?_ | refine Gh.mk [] ?_ | refine And.intro (And.intro (by (simp only [List.length_append, List.length_take, List.length_drop, List.length_cons, List.length_nil, ints_len, List.length_replicate, Go.Cv.vals_len]; omega)) (by (simp only [List.length_append, List.length_take, List.length_drop, List.length_cons, List.length_nil, ints_len, List.length_replicate, Go.Cv.vals_len]; omega))) ?_ | refine ⟨_, _, rfl, ints_get (by first | omega | (simp only [ints_len] at *; omega)), ?_⟩ | refine ⟨_, _, (Int.toNat_of_nonneg (by first | omega | (simp only [ints_len] at *; omega))).symm, ints_get (by first | omega | (simp only [ints_len] at *; omega)), ?_⟩ | fail)
  all_goals try (conv => whnf)
  exact ⟨rfl, Imp.bp ⟨fun h => Classical.byContradiction fun h' => h (hx.2 h'), fun h h' => hx.1 h' h⟩⟩
end Go.Proofs.Ytlnpbgjoccipaaa
