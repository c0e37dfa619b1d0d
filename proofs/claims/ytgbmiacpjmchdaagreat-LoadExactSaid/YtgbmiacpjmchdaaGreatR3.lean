/-
  A text of the proofs of this seat: lemmas that the statements' proofs use; it states nothing of the program by itself beyond the contracts that its theorems bear. Conditions: those that stand in each theorem. Its short name: R3.
-/
import Derived.Test.YtgbmiacpjmchdaaGreatR1
set_option linter.unusedVariables false
set_option linter.unusedSimpArgs false
--APPX Go.Cv.vals_len
namespace Go.Proofs.YtgbmiacpjmchdaaGreat
open Go.Sx Go.Cv
set_option maxRecDepth 4000
theorem aP_R3 {A B K : Prop} (k : K) (a : A := by (simp only [zA, zT, zD, zC, zN, ints_len, zR, Go.Cv.vals_len]; omega)) (b : B := by (simp only [zA, zT, zD, zC, zN, ints_len, zR, Go.Cv.vals_len]; omega)) : (A ∧ B) ∧ K := ⟨⟨a, b⟩, k⟩
theorem Least_ok (vs : List Int) (P : Nat) (Q : Int) (hb : Bd vs P Q) :
    Ctr Tryz.prog 101 [crv vs P Q] [] (fun r o => ∃ x : List Int × Nat × Int, LeastP vs P Q x.1 x.2.1 x.2.2 ∧ o = [] ∧ r = crv x.1 x.2.1 x.2.2) := by
  refine Ctr.impE ?_
  have p1 := hb.p1
  have pn := hb.pn
  have hn := hb.n
  have q0 := hb.q0
  have q1 := hb.q1
  refine fn_intro (E := env 0) tys_ok rfl rfl rfl Tryz.func101 (by kernel_rfl) rfl (by kernel_rfl) ?_
  (repeat' (conv => whnf); first | refine aC (fun _ => ?_) (fun _ => ?_) | refine aS ?_ | refine aG ?_ | refine aD ?_ | refine aH ?_ | refine aP_R3 ?_ | refine aI ?_ | refine aJ ?_ | fail); all_goals try (conv => whnf)
  refine LoopOb.mk (Y := Nat) (st := fun j => ⟨[(1, .ptr 0 0), (2, .ptr 1 0), (3, i64 j)], [.box [.psl 1 (ints vs), i64 P, i64 Q], .box [.nil, i64 0, i64 0]]⟩)
    (inv := fun j => j ≤ vs.length ∧ ∀ k < j, vs.getD k 0 ≠ 4611686018427387904) (fun j => vs.length - j) 0 [0, 1] ⟨by omega, fun k h => by omega⟩ (by (exact aL)) ?_
  rintro j ⟨h1, h2⟩
  (repeat' (conv => whnf); first | refine aC (fun _ => ?_) (fun _ => ?_) | refine aS ?_ | refine aG ?_ | refine aD ?_ | refine aH ?_ | refine aP_R3 ?_ | refine aI ?_ | refine aJ ?_ | refine aW (.qs [0, 1, 2, 3, 4, 5, 6, 7, 9, 10, 11, 13] (.l 8 [9] (.l 12 [] (.qs [14, 15, 16] .nil) .no) .no)) ?_ | refine aW (.qs [0, 1, 2, 3] (.l 4 [1] (.l 5 [1] (.l 6 [] (.qs [7] (.l 8 [] .nil .no)) .no) .no) .no)) ?_ | fail); all_goals try (conv => whnf)
  · have hj : vs.getD j 0 = INF := by assumption
    refine ⟨j + 1, by push_cast; rfl, ?_⟩
    refine ⟨⟨by omega, by simp only [ints_len] at *; omega⟩, ?_⟩
    (repeat' (conv => whnf); first | refine aC (fun _ => ?_) (fun _ => ?_) | refine aS ?_ | refine aG ?_ | refine aD ?_ | refine aP_R3 ?_ | refine aI ?_ | refine aJ ?_ | fail); all_goals try (conv => whnf)
    refine .mk [.fz 3] ?_
    refine ⟨(vs.take (j + 1), 1, 0), .inl ⟨j, by simp only [ints_len] at *; omega, hj, h2, rfl, rfl, rfl⟩, rfl, ?_⟩
    exact Imp.agg ⟨Imp.psl (by simp [ints, List.map_take]), Imp.refl _, Imp.refl _, trivial⟩
  · have hj : ¬vs.getD j 0 = INF := by assumption
    refine ⟨j + 1, [0, 1], ⟨by simp only [ints_len] at *; omega, fun k hk => ?_⟩, by simp only [ints_len] at *; omega, by (exact aL)⟩
    by_cases hkj : k = j
    · subst hkj; exact hj
    · exact h2 k (by omega)
  have hjl : j = vs.length := by simp only [ints_len] at *; omega
  subst hjl
  have hper : Per (val vs P Q) (vs.length - P) P Q := val_per p1 pn (fun t _ ht => h2 t ht)
  refine LoopOb.mk (Y := Nat) (st := fun p => ⟨[(1, .ptr 0 0), (2, .ptr 1 0), (4, i64 ((vs.length - P : Nat) : Int)), (5, i64 p)], [.box [.psl 1 (ints vs), i64 P, i64 Q], .box [.nil, i64 0, i64 0]]⟩)
    (inv := fun p => 1 ≤ p ∧ p ≤ P ∧ ∀ p', 1 ≤ p' → p' < p → ¬Fits (val vs P Q) (vs.length - P) P Q p') (fun p => P - p) 1 [0, 1] ⟨by omega, by omega, fun p' h1 h2 => by omega⟩
    (by refine Le.mk (by kernel_rfl) ?_ ?_ <;> repeat' (first | exact True.intro | refine And.intro ?_ ?_ | exact Imp.refl _ | exact Imp.any _ | exact Imp.num (by simp only [ints_len]; omega) | exact rfl)) ?_
  rintro p ⟨h3, h4, h5⟩
  (repeat' (conv => whnf); first | refine aC (fun _ => ?_) (fun _ => ?_) | refine aS ?_ | refine aG ?_ | refine aD ?_ | refine aH ?_ | refine aP_R3 ?_ | refine aI ?_ | refine aJ ?_ | refine aW (.qs [0, 1, 2, 3, 4, 5, 6, 7, 9, 10, 11, 13] (.l 8 [9] (.l 12 [] (.qs [14, 15, 16] .nil) .no) .no)) ?_ | refine aW (.qs [0, 1, 2, 3] (.l 4 [1] (.l 5 [1] (.l 6 [] (.qs [7] (.l 8 [] .nil .no)) .no) .no) .no)) ?_ | fail); all_goals try (conv => whnf)
  refine CallOb.mk [] (periodic_ok vs P Q _ _ hb h3 h4 (by omega)) rfl (ImpL.refl _) rfl rfl ?_
  rintro _ _ ⟨rfl, rfl⟩
  (repeat' (conv => whnf); first | refine aC (fun _ => ?_) (fun _ => ?_) | refine aS ?_ | refine aG ?_ | refine aD ?_ | refine aH ?_ | refine aP_R3 ?_ | refine aI ?_ | refine aJ ?_ | refine aW (.qs [0, 1, 2, 3, 4, 5, 6, 7, 9, 10, 11, 13] (.l 8 [9] (.l 12 [] (.qs [14, 15, 16] .nil) .no) .no)) ?_ | refine aW (.qs [0, 1, 2, 3] (.l 4 [1] (.l 5 [1] (.l 6 [] (.qs [7] (.l 8 [] .nil .no)) .no) .no) .no)) ?_ | fail); all_goals try (conv => whnf)
  · have hnf : ¬Fits (val vs P Q) (vs.length - P) P Q p := by assumption
    have hlt : p < P := by
      rcases Nat.lt_or_ge p P with h | h
      · exact h
      · have : p = P := by omega
        subst this; exact absurd (fits_self p1 hper) hnf
    refine ⟨p + 1, [0, 1], ⟨by omega, by omega, fun p' h6 h7 => ?_⟩, by omega, by (exact aL)⟩
    by_cases hpp : p' = p
    · subst hpp; exact hnf
    · exact h5 p' h6 (by omega)
  have hfit : Fits (val vs P Q) (vs.length - P) P Q p := Classical.not_not.1 (by assumption)
  have hQp := mul_bd (a := Q) (b := (p : Int)) (A := 1099511627776) (B := 2000) (by omega) (by omega) (by omega) (by omega)
  have hd := tdiv_bd (a := Q * p) (b := (P : Int)) (by omega) (by omega)
  have hmin := Fits.min p1 hper h5
  have hpq := Fits.per p1 hper hfit
  (repeat' (conv => whnf); first | refine aC (fun _ => ?_) (fun _ => ?_) | refine aS ?_ | refine aG ?_ | refine aD ?_ | refine aH ?_ | refine aP_R3 ?_ | refine aI ?_ | refine aJ ?_ | fail); all_goals try (conv => whnf)
  refine ⟨by omega, ?_⟩
  rw [hd.1]
  (repeat' (conv => whnf); first | refine aC (fun _ => ?_) (fun _ => ?_) | refine aS ?_ | refine aG ?_ | refine aD ?_ | refine aH ?_ | refine aP_R3 ?_ | refine aI ?_ | refine aJ ?_ | fail); all_goals try (conv => whnf)
  generalize hq : Q * (p : Int) / (P : Int) = q at *
  refine LoopOb.mk (Y := Nat) (st := fun s => ⟨[(1, .ptr 0 0), (2, .ptr 1 0), (4, i64 s), (5, i64 p), (6, i64 q)], [.box [.psl 1 (ints vs), i64 P, i64 Q], .box [.nil, i64 0, i64 0]]⟩)
    (inv := fun s => s ≤ vs.length - P ∧ Per (val vs P Q) s p q) (fun s => s) (vs.length - P) [0, 1] ⟨by omega, hpq⟩ (by (exact aL)) ?_
  rintro s ⟨h6, h7⟩
  (repeat' (conv => whnf); first | refine aC (fun _ => ?_) (fun _ => ?_) | refine aS ?_ | refine aG ?_ | refine aD ?_ | refine aP_R3 ?_ | refine aI ?_ | refine aJ ?_ | refine aW (.qs [0, 1, 2, 3, 4, 5, 6, 7, 9, 10, 11, 13] (.l 8 [9] (.l 12 [] (.qs [14, 15, 16] .nil) .no) .no)) ?_ | refine aW (.qs [0, 1, 2, 3] (.l 4 [1] (.l 5 [1] (.l 6 [] (.qs [7] (.l 8 [] .nil .no)) .no) .no) .no)) ?_ | fail); all_goals try (conv => whnf)
  · refine .mk [] ?_
    refine CallOb.mk [] (At_ok _ _ _ _ hb (by omega) (by omega)) rfl (ImpL.refl _) rfl rfl ?_
    rintro _ _ ⟨rfl, rfl⟩
    (repeat' (conv => whnf); first | refine aC (fun _ => ?_) (fun _ => ?_) | refine aS ?_ | refine aG ?_ | refine aD ?_ | refine aH ?_ | refine aP_R3 ?_ | refine aI ?_ | refine aJ ?_ | fail); all_goals try (conv => whnf)
    refine CallOb.mk [] (At_ok _ _ _ _ hb (by omega) (by omega)) rfl (ImpL.refl _) rfl rfl ?_
    rintro _ _ ⟨rfl, rfl⟩
    have hs0 : 0 < s := by omega
    rw [show ((s : Int) - 1 + p).toNat = s - 1 + p by omega, show ((s : Int) - 1).toNat = s - 1 by omega]
    have b1 := val_bd hb (t := s - 1) (by omega)
    have b2 := val_bd hb (t := s - 1 + p) (by omega)
    (repeat' (conv => whnf); first | refine aC (fun _ => ?_) (fun _ => ?_) | refine aS ?_ | refine aG ?_ | refine aD ?_ | refine aP_R3 ?_ | refine aI ?_ | refine aJ ?_ | refine aW (.qs [0, 1, 2, 3, 4, 5, 6, 7, 9, 10, 11, 13] (.l 8 [9] (.l 12 [] (.qs [14, 15, 16] .nil) .no) .no)) ?_ | refine aW (.qs [0, 1, 2, 3] (.l 4 [1] (.l 5 [1] (.l 6 [] (.qs [7] (.l 8 [] .nil .no)) .no) .no) .no)) ?_ | fail); all_goals try (conv => whnf)
    · refine .mk [] ?_
      refine ⟨s - 1, [0, 1], ⟨by omega, h7.pred (by assumption)⟩, by omega, ?_⟩
      refine Le.mk (by kernel_rfl) ?_ ?_ <;> repeat' (first | exact True.intro | refine And.intro ?_ ?_ | exact Imp.refl _ | exact Imp.any _ | exact Imp.num (by omega) | exact rfl)
    have hms : MinS (val vs P Q) s p q := minS_of (by right; assumption)
    refine .mk [.nb 2 0 1] ?_
    refine LoopOb.mk (Y := Nat) (st := fun t => ⟨[(1, .ptr 0 0), (2, .ptr 1 0), (4, i64 s), (5, i64 p), (7, .ptr 2 0), (8, i64 t)], [.box [.psl 1 (ints vs), i64 P, i64 Q], .box [.nil, i64 0, i64 0], .box [.vec 3, i64 p, i64 q], .vec 1 (ints (vals (val vs P Q) t))]⟩)
      (inv := fun t => t ≤ s + p) (fun t => s + p - t) 0 [0, 1, 2, 3] (by omega) (by (exact aL)) ?_
    intro t ht
    (repeat' (conv => whnf); first | refine aC (fun _ => ?_) (fun _ => ?_) | refine aS ?_ | refine aG ?_ | refine aD ?_ | refine aP_R3 ?_ | refine aI ?_ | refine aJ ?_ | refine aW (.qs [0, 1, 2, 3, 4, 5, 6, 7, 9, 10, 11, 13] (.l 8 [9] (.l 12 [] (.qs [14, 15, 16] .nil) .no) .no)) ?_ | refine aW (.qs [0, 1, 2, 3] (.l 4 [1] (.l 5 [1] (.l 6 [] (.qs [7] (.l 8 [] .nil .no)) .no) .no) .no)) ?_ | fail); all_goals try (conv => whnf)
    · refine .mk [] ?_
      refine CallOb.mk [] (At_ok _ _ _ _ hb (by omega) (by omega)) rfl (ImpL.refl _) rfl rfl ?_
      rintro _ _ ⟨rfl, rfl⟩
      simp only [Int.toNat_natCast]
      (repeat' (conv => whnf); first | refine aC (fun _ => ?_) (fun _ => ?_) | refine aS ?_ | refine aG ?_ | refine aD ?_ | refine aP_R3 ?_ | refine aI ?_ | refine aJ ?_ | refine aW (.qs [0, 1, 2, 3, 4, 5, 6, 7, 9, 10, 11, 13] (.l 8 [9] (.l 12 [] (.qs [14, 15, 16] .nil) .no) .no)) ?_ | refine aW (.qs [0, 1, 2, 3] (.l 4 [1] (.l 5 [1] (.l 6 [] (.qs [7] (.l 8 [] .nil .no)) .no) .no) .no)) ?_ | fail); all_goals try (conv => whnf)
      refine .mk [] ?_
      refine ⟨t + 1, [0, 1, 2, 5], by omega, by omega, ?_⟩
      refine Le.mk (by kernel_rfl) ?_ ?_ <;> repeat' (first | exact True.intro | refine And.intro ?_ ?_ | exact Imp.refl _ | exact Imp.any _ | exact Imp.num (by omega) | exact rfl | simp [ints, vals_succ])
    · refine .mk [.fz 3] ?_
      have htt : t = s + p := by omega
      subst htt
      refine ⟨(vals (val vs P Q) (s + p), p, q), .inr ⟨h2, s, h3, h7, hmin, hms, rfl⟩, rfl, ?_⟩
      exact Imp.agg ⟨Imp.refl _, Imp.refl _, Imp.refl _, trivial⟩
  · have hms : MinS (val vs P Q) s p q := minS_of (by left; omega)
    refine .mk [.nb 2 0 1] ?_
    refine LoopOb.mk (Y := Nat) (st := fun t => ⟨[(1, .ptr 0 0), (2, .ptr 1 0), (4, i64 s), (5, i64 p), (7, .ptr 2 0), (8, i64 t)], [.box [.psl 1 (ints vs), i64 P, i64 Q], .box [.nil, i64 0, i64 0], .box [.vec 3, i64 p, i64 q], .vec 1 (ints (vals (val vs P Q) t))]⟩)
      (inv := fun t => t ≤ s + p) (fun t => s + p - t) 0 [0, 1, 2, 3] (by omega) (by (exact aL)) ?_
    intro t ht
    (repeat' (conv => whnf); first | refine aC (fun _ => ?_) (fun _ => ?_) | refine aS ?_ | refine aG ?_ | refine aD ?_ | refine aP_R3 ?_ | refine aI ?_ | refine aJ ?_ | refine aW (.qs [0, 1, 2, 3, 4, 5, 6, 7, 9, 10, 11, 13] (.l 8 [9] (.l 12 [] (.qs [14, 15, 16] .nil) .no) .no)) ?_ | refine aW (.qs [0, 1, 2, 3] (.l 4 [1] (.l 5 [1] (.l 6 [] (.qs [7] (.l 8 [] .nil .no)) .no) .no) .no)) ?_ | fail); all_goals try (conv => whnf)
    · refine .mk [] ?_
      refine CallOb.mk [] (At_ok _ _ _ _ hb (by omega) (by omega)) rfl (ImpL.refl _) rfl rfl ?_
      rintro _ _ ⟨rfl, rfl⟩
      simp only [Int.toNat_natCast]
      (repeat' (conv => whnf); first | refine aC (fun _ => ?_) (fun _ => ?_) | refine aS ?_ | refine aG ?_ | refine aD ?_ | refine aP_R3 ?_ | refine aI ?_ | refine aJ ?_ | refine aW (.qs [0, 1, 2, 3, 4, 5, 6, 7, 9, 10, 11, 13] (.l 8 [9] (.l 12 [] (.qs [14, 15, 16] .nil) .no) .no)) ?_ | refine aW (.qs [0, 1, 2, 3] (.l 4 [1] (.l 5 [1] (.l 6 [] (.qs [7] (.l 8 [] .nil .no)) .no) .no) .no)) ?_ | fail); all_goals try (conv => whnf)
      refine .mk [] ?_
      refine ⟨t + 1, [0, 1, 2, 5], by omega, by omega, ?_⟩
      refine Le.mk (by kernel_rfl) ?_ ?_ <;> repeat' (first | exact True.intro | refine And.intro ?_ ?_ | exact Imp.refl _ | exact Imp.any _ | exact Imp.num (by omega) | exact rfl | simp [ints, vals_succ])
    · refine .mk [.fz 3] ?_
      have htt : t = s + p := by omega
      subst htt
      refine ⟨(vals (val vs P Q) (s + p), p, q), .inr ⟨h2, s, h3, h7, hmin, hms, rfl⟩, rfl, ?_⟩
      exact Imp.agg ⟨Imp.refl _, Imp.refl _, Imp.refl _, trivial⟩
end Go.Proofs.YtgbmiacpjmchdaaGreat
