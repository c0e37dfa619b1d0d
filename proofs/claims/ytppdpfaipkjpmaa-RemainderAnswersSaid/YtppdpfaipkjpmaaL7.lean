/-
  A text of the proofs of this seat: lemmas that the statements' proofs use; it states nothing of the program by itself beyond the contracts that its theorems bear. Conditions: those that stand in each theorem. Its short name: L7.
-/
import Derived.Test.YtppdpfaipkjpmaaK12
set_option linter.unusedVariables false
set_option linter.unusedSimpArgs false
namespace Go.Proofs.Ytppdpfaipkjpmaa
open Go.Sx Go.Cv
set_option maxRecDepth 200000
set_option maxHeartbeats 1000000
def crow (c : List Int × Int × Int) : List SV := [.psl 1 (ints c.1), i64 c.2.1, i64 c.2.2]
def crows (l : List (List Int × Int × Int)) : List (List SV) := l.map crow
structure LI (y : List (List Int × Int × Int) × Nat) : Prop where
  n : y.1.length = 7
  b : ∀ c ∈ y.1, c.1.length ≤ 1000
  k : y.2 ≤ 2000
theorem Answers_ok (vs : List Int) (p q : Int) (ws : List Int) (p' q' : Int) (l : List Int) (hl : l.length ≤ 9223372036854775807) : Ctr Try.prog 3 [crv vs p q, crv ws p' q', .psl 1 (ints l)] [] (fun r o => r = .bl true) := by
  refine fn_intro (E := env 0) tys_ok rfl rfl rfl Try.func3 (by kernel_rfl) rfl (by kernel_rfl) ?_
  have hL : (l.take 2000).length ≤ 2000 := by rw [List.length_take]; omega
  repeat' (conv => whnf
           first
           | (refine CondOb.mk (fun _ => ?_) (fun _ => ?_) <;> first | (exfalso; omega) | skip)
           | refine ArOb.fits (by first | omega | (simp only [ints_len] at *; omega)) ?_
           | refine LitOb.vec ?_
           | refine MakeOb.vec ?_
           | refine AllocOb.box ?_
           | refine AggOb.mk (by decide +kernel) ?_
           | refine ArU.fits (by first | omega | (simp only [ints_len] at *; omega)) ?_
           | refine ArB.fits (by first | omega | (simp only [ints_len] at *; omega)) ?_
           | refine CutOb.split ?_
           | refine Gh.mk [] ?_
           | refine And.intro (And.intro (by (simp only [List.length_append, List.length_take, List.length_drop, List.length_cons, List.length_nil, ints_len, List.length_replicate, Go.Cv.vals_len]; omega)) (by (simp only [List.length_append, List.length_take, List.length_drop, List.length_cons, List.length_nil, ints_len, List.length_replicate, Go.Cv.vals_len]; omega))) ?_
           | refine ⟨_, _, rfl, ints_get (by first | omega | (simp only [ints_len] at *; omega)), ?_⟩
           | refine ⟨_, _, (Int.toNat_of_nonneg (by first | omega | (simp only [ints_len] at *; omega))).symm, ints_get (by first | omega | (simp only [ints_len] at *; omega)), ?_⟩
           | refine DrawOb.mk [] (.qs [0, 1, 2, 7] (.l 3 [] (.l 4 [] (.l 5 [] (.qs [6] .nil) .no) .no) .no)) (by decide +kernel) ?_
           | (refine CallOb.mk [] (Small_ok vs p q) rfl (ImpL.refl _) rfl rfl ?_; rintro _ _ ⟨rfl, rfl⟩)
           | (refine CallOb.mk [] (Small_ok ws p' q') rfl (ImpL.refl _) rfl rfl ?_; rintro _ _ ⟨rfl, rfl⟩)
           | (refine CallOb.mk [] (New_ok l hl) rfl (ImpL.refl _) rfl rfl ?_; rintro _ _ ⟨rfl, rfl⟩)
           | (refine CallOb.mk [] (awake_ok) rfl (ImpL.refl _) rfl rfl ?_; rintro _ _ ⟨rfl, rfl⟩)
           | fail)
  all_goals try (conv => whnf)
  · exact rfl
  · exact rfl
  have hv8 := Classical.not_not.1 ‹¬¬(vs.length : Int) ≤ 800›
  have hw8 := Classical.not_not.1 ‹¬¬(ws.length : Int) ≤ 800›
  refine CallOb.mk [2] (Ctr.impE (Curve_ok _ 0 hL (by omega) 9 (by omega) (by omega))) rfl (ImpL.refl _) rfl rfl ?_
  rintro _ _ ⟨⟨f, k1⟩, ⟨hf, hk1⟩, rfl, rfl⟩
  dsimp only at hf hk1 ⊢
  repeat' (conv => whnf
           first
           | (refine CondOb.mk (fun _ => ?_) (fun _ => ?_) <;> first | (exfalso; omega) | skip)
           | refine ArOb.fits (by first | omega | (simp only [ints_len] at *; omega)) ?_
           | refine LitOb.vec ?_
           | refine MakeOb.vec ?_
           | refine AllocOb.box ?_
           | refine AggOb.mk (by decide +kernel) ?_
           | refine ArU.fits (by first | omega | (simp only [ints_len] at *; omega)) ?_
           | refine ArB.fits (by first | omega | (simp only [ints_len] at *; omega)) ?_
           | refine CutOb.split ?_
           | refine Gh.mk [] ?_
           | refine And.intro (And.intro (by (simp only [List.length_append, List.length_take, List.length_drop, List.length_cons, List.length_nil, ints_len, List.length_replicate, Go.Cv.vals_len]; omega)) (by (simp only [List.length_append, List.length_take, List.length_drop, List.length_cons, List.length_nil, ints_len, List.length_replicate, Go.Cv.vals_len]; omega))) ?_
           | refine ⟨_, _, rfl, ints_get (by first | omega | (simp only [ints_len] at *; omega)), ?_⟩
           | refine ⟨_, _, (Int.toNat_of_nonneg (by first | omega | (simp only [ints_len] at *; omega))).symm, ints_get (by first | omega | (simp only [ints_len] at *; omega)), ?_⟩
           | refine DrawOb.mk [] (.qs [0, 1, 2, 7] (.l 3 [] (.l 4 [] (.l 5 [] (.qs [6] .nil) .no) .no) .no)) (by decide +kernel) ?_
           | fail)
  all_goals try (conv => whnf)
  refine CallOb.mk [2] (Ctr.impE (Curve_ok _ k1 hL hk1 9 (by omega) (by omega))) rfl (ImpL.refl _) rfl rfl ?_
  rintro _ _ ⟨⟨g, k2⟩, ⟨hg, hk2⟩, rfl, rfl⟩
  dsimp only at hg hk2 ⊢
  repeat' (conv => whnf
           first
           | (refine CondOb.mk (fun _ => ?_) (fun _ => ?_) <;> first | (exfalso; omega) | skip)
           | refine ArOb.fits (by first | omega | (simp only [ints_len] at *; omega)) ?_
           | refine LitOb.vec ?_
           | refine MakeOb.vec ?_
           | refine AllocOb.box ?_
           | refine AggOb.mk (by decide +kernel) ?_
           | refine ArU.fits (by first | omega | (simp only [ints_len] at *; omega)) ?_
           | refine ArB.fits (by first | omega | (simp only [ints_len] at *; omega)) ?_
           | refine CutOb.split ?_
           | refine Gh.mk [] ?_
           | refine And.intro (And.intro (by (simp only [List.length_append, List.length_take, List.length_drop, List.length_cons, List.length_nil, ints_len, List.length_replicate, Go.Cv.vals_len]; omega)) (by (simp only [List.length_append, List.length_take, List.length_drop, List.length_cons, List.length_nil, ints_len, List.length_replicate, Go.Cv.vals_len]; omega))) ?_
           | refine ⟨_, _, rfl, ints_get (by first | omega | (simp only [ints_len] at *; omega)), ?_⟩
           | refine ⟨_, _, (Int.toNat_of_nonneg (by first | omega | (simp only [ints_len] at *; omega))).symm, ints_get (by first | omega | (simp only [ints_len] at *; omega)), ?_⟩
           | refine DrawOb.mk [] (.qs [0, 1, 2, 7] (.l 3 [] (.l 4 [] (.l 5 [] (.qs [6] .nil) .no) .no) .no)) (by decide +kernel) ?_
           | fail)
  all_goals try (conv => whnf)
  have vf := hf.v
  have hfb : ∀ j < f.1.length, -4611686018427387904 ≤ f.1.getD j 0 ∧ f.1.getD j 0 ≤ 4611686018427387904 := by
    intro j hj
    have := vf.v j hj
    simp only [INF] at this; omega
  refine DrawOb.cut [] (.qs [0, 1, 2, 3, 4, 5, 7, 9, 13] (.l 6 [3, 2, 1, 0] (.l 8 [3, 2, 1, 0] (.l 10 [3, 2, 1, 0] (.l 11 [3, 2, 1, 0] (.l 12 [3, 2, 1, 0] (.l 14 [3, 2, 1, 0] (.l 15 [] (.qs [16] .nil) .no) .no) .no) .no) .no) (.l 10 [3, 2, 1, 0] (.l 8 [3, 2, 1, 0] (.l 11 [3, 2, 1, 0] (.l 12 [3, 2, 1, 0] (.l 14 [3, 2, 1, 0] (.l 15 [] (.qs [16] .nil) .no) .no) .no) .no) .no) .no)) (.l 10 [5, 3, 2, 1, 0] (.l 6 [3, 2, 1, 0] (.l 8 [3, 2, 1, 0] (.l 11 [3, 2, 1, 0] (.l 12 [3, 2, 1, 0] (.l 14 [3, 2, 1, 0] (.l 15 [] (.qs [16] .nil) .no) .no) .no) .no) .no) .no) .no))) (Y := List (List Int × Int × Int) × Nat) (st := fun y => ⟨[(10, .ful 3 (crows y.1)), (7, .ptr 2 0)], [.box [.psl 1 (ints vs), i64 p, i64 q], .box [.psl 1 (ints ws), i64 p', i64 q'], src (l.take 2000) y.2]⟩) (inv := LI) (by decide +kernel) ?_ ?_
  · repeat' (conv => whnf
             first
             | refine LitOb.ful ?_
             | (refine CondOb.mk (fun _ => ?_) (fun _ => ?_) <;> first | (exfalso; omega) | skip)
             | refine ArOb.fits (by first | omega | (simp only [ints_len] at *; omega)) ?_
             | refine LitOb.vec ?_
             | refine MakeOb.vec ?_
             | refine AllocOb.box ?_
             | refine AggOb.mk (by decide +kernel) ?_
             | refine ArU.fits (by first | omega | (simp only [ints_len] at *; omega)) ?_
             | refine ArB.fits (by first | omega | (simp only [ints_len] at *; omega)) ?_
             | refine CutOb.split ?_
             | refine Gh.mk [] ?_
             | refine And.intro (And.intro (by (simp only [List.length_append, List.length_take, List.length_drop, List.length_cons, List.length_nil, ints_len, List.length_replicate, Go.Cv.vals_len]; omega)) (by (simp only [List.length_append, List.length_take, List.length_drop, List.length_cons, List.length_nil, ints_len, List.length_replicate, Go.Cv.vals_len]; omega))) ?_
             | refine ⟨_, _, rfl, ints_get (by first | omega | (simp only [ints_len] at *; omega)), ?_⟩
             | refine ⟨_, _, (Int.toNat_of_nonneg (by first | omega | (simp only [ints_len] at *; omega))).symm, ints_get (by first | omega | (simp only [ints_len] at *; omega)), ?_⟩
             | refine DrawOb.mk [] (.qs [0, 1, 2, 7] (.l 3 [] (.l 4 [] (.l 5 [] (.qs [6] .nil) .no) .no) .no)) (by decide +kernel) ?_
             | refine And.intro ?_ ?_
             | (refine CallOb.mk [2] (Bent_ok _ _ hL (by assumption) f.1 f.2.1 f.2.2 (by have := vf.n1; omega) (by have := vf.n2; omega) hfb) rfl (ImpL.refl _) rfl rfl ?_; rintro _ _ ⟨⟨b, kb⟩, ⟨hb, hkb⟩, rfl, rfl⟩; dsimp only at hb hkb ⊢)
             | (refine CallOb.mk [2] (Steps_ok _ _ hL (by assumption)) rfl (ImpL.refl _) rfl rfl ?_; rintro _ _ ⟨⟨st, ks⟩, ⟨hst, hks⟩, rfl, rfl⟩; dsimp only at hst hks ⊢)
             | (refine CallOb.mk [2] (Ctr.impE (Curve_ok _ _ hL (by assumption) 4 (by omega) (by omega))) rfl (ImpL.refl _) rfl rfl ?_; rintro _ _ ⟨⟨c4, kc⟩, ⟨hc4, hkc⟩, rfl, rfl⟩; dsimp only at hc4 hkc ⊢)
             | (refine CallOb.mk [2] (Pick_ok _ _ hL (by assumption) [7, 11, 30] (by decide) (by decide)) rfl ⟨Imp.refl _, Imp.fulp rfl, trivial⟩ rfl rfl ?_; rintro _ _ ⟨⟨pk, kp⟩, ⟨hpk, hkp⟩, rfl, rfl⟩; dsimp only at hpk hkp ⊢)
             | (refine CallOb.mk [] (Longer_any c4 hc4 pk hpk) rfl (ImpL.refl _) rfl rfl ?_; rintro _ _ ⟨lo, hlo, rfl, rfl⟩; dsimp only at hlo ⊢)
             | fail)
    all_goals try (conv => whnf)
    all_goals
      have hn1 := hf.n
      have hn2 := hg.n
      exact ⟨([(vs, p, q), (ws, p', q'), (f.1, (f.2.1 : Int), f.2.2), (g.1, (g.2.1 : Int), g.2.2), b, lo, st], _), [0, 1, 2], ⟨rfl, by
        intro c hc
        simp only [List.mem_cons, List.not_mem_nil, or_false] at hc
        rcases hc with rfl | rfl | rfl | rfl | rfl | rfl | rfl <;> first | assumption | (simp only; omega), by assumption⟩, by (refine Le.mk (by kernel_rfl) ?_ ?_ <;> repeat' (first | exact True.intro | refine And.intro ?_ ?_ | exact Imp.refl _ | exact Imp.any _ | exact Imp.num (by first | omega | simp only [ints_len]) | exact rfl))⟩
  rintro ⟨cs, k⟩ ⟨hn, hb, hk⟩
  dsimp only at hn hb hk ⊢
  have hcl : ∀ i : Nat, i < 7 → ∃ c, cs[i]? = some c ∧ c.1.length ≤ 1000 := by
    intro i hi
    exact ⟨cs[i], List.getElem?_eq_getElem (by omega), hb _ (List.getElem_mem _)⟩
  have hcr : (crows cs).length = 7 := by simp [crows, hn]
  repeat' (conv => whnf
           first
           | (refine CondOb.mk (fun _ => ?_) (fun _ => ?_) <;> first | (exfalso; omega) | skip)
           | refine ArOb.fits (by first | omega | (simp only [ints_len] at *; omega)) ?_
           | refine LitOb.vec ?_
           | refine MakeOb.vec ?_
           | refine AllocOb.box ?_
           | refine AggOb.mk (by decide +kernel) ?_
           | refine ArU.fits (by first | omega | (simp only [ints_len] at *; omega)) ?_
           | refine ArB.fits (by first | omega | (simp only [ints_len] at *; omega)) ?_
           | refine CutOb.split ?_
           | refine Gh.mk [] ?_
           | refine And.intro (And.intro (by (simp only [List.length_append, List.length_take, List.length_drop, List.length_cons, List.length_nil, ints_len, List.length_replicate, Go.Cv.vals_len]; omega)) (by (simp only [List.length_append, List.length_take, List.length_drop, List.length_cons, List.length_nil, ints_len, List.length_replicate, Go.Cv.vals_len]; omega))) ?_
           | refine ⟨_, _, rfl, ints_get (by first | omega | (simp only [ints_len] at *; omega)), ?_⟩
           | refine ⟨_, _, (Int.toNat_of_nonneg (by first | omega | (simp only [ints_len] at *; omega))).symm, ints_get (by first | omega | (simp only [ints_len] at *; omega)), ?_⟩
           | refine DrawOb.mk [] (.qs [0, 1, 2, 7] (.l 3 [] (.l 4 [] (.l 5 [] (.qs [6] .nil) .no) .no) .no)) (by decide +kernel) ?_
           | fail)
  all_goals try (conv => whnf)
  refine LoopOb.mk (Y := Nat × Nat) (st := fun y => ⟨[(56, i64 y.1), (55, i64 (crows cs).length), (54, .ful 3 (crows cs)), (10, .ful 3 (crows cs)), (7, .ptr 2 0)], [.box [.psl 1 (ints vs), i64 p, i64 q], .box [.psl 1 (ints ws), i64 p', i64 q'], src (l.take 2000) y.2]⟩)
    (inv := fun y => y.1 ≤ 7 ∧ y.2 ≤ 2000) (fun y => 7 - y.1) (0, k) [0, 1, 2] ⟨by simp, hk⟩ (by (refine Le.mk (by kernel_rfl) ?_ ?_ <;> repeat' (first | exact True.intro | refine And.intro ?_ ?_ | exact Imp.refl _ | exact Imp.any _ | exact Imp.num (by first | omega | simp only [ints_len]) | exact rfl))) ?_
  rintro ⟨i, k⟩ ⟨hi, hk⟩
  dsimp only at hi hk ⊢
  repeat' (conv => whnf
           first
           | (refine CondOb.mk (fun _ => ?_) (fun _ => ?_) <;> first | (exfalso; omega) | skip)
           | refine ArOb.fits (by first | omega | (simp only [ints_len] at *; omega)) ?_
           | refine LitOb.vec ?_
           | refine MakeOb.vec ?_
           | refine AllocOb.box ?_
           | refine AggOb.mk (by decide +kernel) ?_
           | refine ArU.fits (by first | omega | (simp only [ints_len] at *; omega)) ?_
           | refine ArB.fits (by first | omega | (simp only [ints_len] at *; omega)) ?_
           | refine CutOb.split ?_
           | refine And.intro (And.intro (by (simp only [List.length_append, List.length_take, List.length_drop, List.length_cons, List.length_nil, ints_len, List.length_replicate, Go.Cv.vals_len]; omega)) (by (simp only [List.length_append, List.length_take, List.length_drop, List.length_cons, List.length_nil, ints_len, List.length_replicate, Go.Cv.vals_len]; omega))) ?_
           | refine ⟨_, _, rfl, ints_get (by first | omega | (simp only [ints_len] at *; omega)), ?_⟩
           | refine ⟨_, _, (Int.toNat_of_nonneg (by first | omega | (simp only [ints_len] at *; omega))).symm, ints_get (by first | omega | (simp only [ints_len] at *; omega)), ?_⟩
           | refine DrawOb.mk [] (.qs [0, 1, 2, 7] (.l 3 [] (.l 4 [] (.l 5 [] (.qs [6] .nil) .no) .no) .no)) (by decide +kernel) ?_
           | fail)
  all_goals try (conv => whnf)
  · have hi7 : i < 7 := by have := ‹(i : Int) < ((crows cs).length : Int)›; omega
    obtain ⟨c, hc, hcb⟩ := hcl i hi7
    have hcc : (crows cs)[i]? = some (crow c) := by simp [crows, List.getElem?_map, hc]
    refine ⟨i, _, rfl, hcc, ?_⟩
    repeat' (conv => whnf
             first
             | refine LitOb.ful ?_
             | (refine CondOb.mk (fun _ => ?_) (fun _ => ?_) <;> first | (exfalso; omega) | skip)
             | refine ArOb.fits (by first | omega | (simp only [ints_len] at *; omega)) ?_
             | refine LitOb.vec ?_
             | refine MakeOb.vec ?_
             | refine AllocOb.box ?_
             | refine AggOb.mk (by decide +kernel) ?_
             | refine ArU.fits (by first | omega | (simp only [ints_len] at *; omega)) ?_
             | refine ArB.fits (by first | omega | (simp only [ints_len] at *; omega)) ?_
             | refine CutOb.split ?_
             | refine And.intro (And.intro (by (simp only [List.length_append, List.length_take, List.length_drop, List.length_cons, List.length_nil, ints_len, List.length_replicate, Go.Cv.vals_len]; omega)) (by (simp only [List.length_append, List.length_take, List.length_drop, List.length_cons, List.length_nil, ints_len, List.length_replicate, Go.Cv.vals_len]; omega))) ?_
             | refine ⟨_, _, rfl, ints_get (by first | omega | (simp only [ints_len] at *; omega)), ?_⟩
             | refine ⟨_, _, (Int.toNat_of_nonneg (by first | omega | (simp only [ints_len] at *; omega))).symm, ints_get (by first | omega | (simp only [ints_len] at *; omega)), ?_⟩
             | refine DrawOb.mk [] (.qs [0, 1, 2, 7] (.l 3 [] (.l 4 [] (.l 5 [] (.qs [6] .nil) .no) .no) .no)) (by decide +kernel) ?_
             | fail)
    all_goals try (conv => whnf)
    refine ⟨1, rfl, ⟨by omega, Nat.le_refl _⟩, ?_⟩
    repeat' (conv => whnf
             first
             | refine LitOb.ful ?_
             | (refine CondOb.mk (fun _ => ?_) (fun _ => ?_) <;> first | (exfalso; omega) | skip)
             | refine ArOb.fits (by first | omega | (simp only [ints_len] at *; omega)) ?_
             | refine LitOb.vec ?_
             | refine MakeOb.vec ?_
             | refine AllocOb.box ?_
             | refine AggOb.mk (by decide +kernel) ?_
             | refine ArU.fits (by first | omega | (simp only [ints_len] at *; omega)) ?_
             | refine ArB.fits (by first | omega | (simp only [ints_len] at *; omega)) ?_
             | refine CutOb.split ?_
             | refine Gh.mk [] ?_
             | refine And.intro (And.intro (by (simp only [List.length_append, List.length_take, List.length_drop, List.length_cons, List.length_nil, ints_len, List.length_replicate, Go.Cv.vals_len]; omega)) (by (simp only [List.length_append, List.length_take, List.length_drop, List.length_cons, List.length_nil, ints_len, List.length_replicate, Go.Cv.vals_len]; omega))) ?_
             | refine ⟨_, _, rfl, ints_get (by first | omega | (simp only [ints_len] at *; omega)), ?_⟩
             | refine ⟨_, _, (Int.toNat_of_nonneg (by first | omega | (simp only [ints_len] at *; omega))).symm, ints_get (by first | omega | (simp only [ints_len] at *; omega)), ?_⟩
             | refine DrawOb.mk [] (.qs [0, 1, 2, 7] (.l 3 [] (.l 4 [] (.l 5 [] (.qs [6] .nil) .no) .no) .no)) (by decide +kernel) ?_
             | fail)
    all_goals try (conv => whnf)
    refine CallOb.mk [2] (Steps_ok _ k hL hk) rfl (ImpL.refl _) rfl rfl ?_
    rintro _ _ ⟨⟨st, ks⟩, ⟨hst, hks⟩, rfl, rfl⟩
    dsimp only at hst hks ⊢
    repeat' (conv => whnf
             first
             | refine LitOb.ful ?_
             | (refine CondOb.mk (fun _ => ?_) (fun _ => ?_) <;> first | (exfalso; omega) | skip)
             | refine ArOb.fits (by first | omega | (simp only [ints_len] at *; omega)) ?_
             | refine LitOb.vec ?_
             | refine MakeOb.vec ?_
             | refine AllocOb.box ?_
             | refine AggOb.mk (by decide +kernel) ?_
             | refine ArU.fits (by first | omega | (simp only [ints_len] at *; omega)) ?_
             | refine ArB.fits (by first | omega | (simp only [ints_len] at *; omega)) ?_
             | refine CutOb.split ?_
             | refine And.intro (And.intro (by (simp only [List.length_append, List.length_take, List.length_drop, List.length_cons, List.length_nil, ints_len, List.length_replicate, Go.Cv.vals_len]; omega)) (by (simp only [List.length_append, List.length_take, List.length_drop, List.length_cons, List.length_nil, ints_len, List.length_replicate, Go.Cv.vals_len]; omega))) ?_
             | refine ⟨_, _, rfl, ints_get (by first | omega | (simp only [ints_len] at *; omega)), ?_⟩
             | refine ⟨_, _, (Int.toNat_of_nonneg (by first | omega | (simp only [ints_len] at *; omega))).symm, ints_get (by first | omega | (simp only [ints_len] at *; omega)), ?_⟩
             | refine DrawOb.mk [] (.qs [0, 1, 2, 7] (.l 3 [] (.l 4 [] (.l 5 [] (.qs [6] .nil) .no) .no) .no)) (by decide +kernel) ?_
             | fail)
    all_goals try (conv => whnf)
    refine FulOb.ne (by simp) ⟨⟨by simp [hcr], by simp [hcr]⟩, ?_⟩
    repeat' (conv => whnf
             first
             | (refine CondOb.mk (fun _ => ?_) (fun _ => ?_) <;> first | (exfalso; omega) | skip)
             | refine ArOb.fits (by first | omega | (simp only [ints_len] at *; omega)) ?_
             | refine LitOb.vec ?_
             | refine MakeOb.vec ?_
             | refine AllocOb.box ?_
             | refine AggOb.mk (by decide +kernel) ?_
             | refine ArU.fits (by first | omega | (simp only [ints_len] at *; omega)) ?_
             | refine ArB.fits (by first | omega | (simp only [ints_len] at *; omega)) ?_
             | refine CutOb.split ?_
             | refine And.intro (And.intro (by (simp only [List.length_append, List.length_take, List.length_drop, List.length_cons, List.length_nil, ints_len, List.length_replicate, Go.Cv.vals_len]; omega)) (by (simp only [List.length_append, List.length_take, List.length_drop, List.length_cons, List.length_nil, ints_len, List.length_replicate, Go.Cv.vals_len]; omega))) ?_
             | refine ⟨_, _, rfl, ints_get (by first | omega | (simp only [ints_len] at *; omega)), ?_⟩
             | refine ⟨_, _, (Int.toNat_of_nonneg (by first | omega | (simp only [ints_len] at *; omega))).symm, ints_get (by first | omega | (simp only [ints_len] at *; omega)), ?_⟩
             | refine DrawOb.mk [] (.qs [0, 1, 2, 7] (.l 3 [] (.l 4 [] (.l 5 [] (.qs [6] .nil) .no) .no) .no)) (by decide +kernel) ?_
             | fail)
    all_goals try (conv => whnf)
    refine .mk [.fz 4] ?_
    obtain ⟨ds, hdd⟩ : ∃ ds, ds = cs.drop 1 ++ [st] := ⟨_, rfl⟩
    have hds : List.drop 1 (crows cs) ++ [[.psl 1 (ints st.1), i64 st.2.1, i64 st.2.2]] = crows ds := by rw [hdd]; simp [crows, crow, List.map_drop]
    have hdl : (crows ds).length = 7 := by rw [hdd]; simp [crows, hn]
    have hdb : ∀ j : Nat, j < 7 → ∃ d, ds[j]? = some d ∧ d.1.length ≤ 1000 := by
      intro j hj
      have hl : j < ds.length := by rw [hdd]; simp [hn]; omega
      refine ⟨ds[j], List.getElem?_eq_getElem hl, ?_⟩
      have hm : ∀ d ∈ ds, d.1.length ≤ 1000 := by
        intro d hm
        rw [hdd, List.mem_append] at hm
        rcases hm with hm | hm
        · exact hb _ (List.mem_of_mem_drop hm)
        · simp at hm; rw [hm]; exact hst
      exact hm _ (List.getElem_mem hl)
    refine LoopOb.mk (Y := Nat) (st := fun j => ⟨[(67, i64 j), (66, i64 (crows ds).length), (65, .psl 3 (crows ds)), (12, .ptr 3 0), (56, i64 i), (55, i64 (crows cs).length), (54, .ful 3 (crows cs)), (10, .ful 3 (crows cs)), (7, .ptr 2 0)], [.box [.psl 1 (ints vs), i64 p, i64 q], .box [.psl 1 (ints ws), i64 p', i64 q'], src (l.take 2000) ks, .box [.psl 1 (ints c.1), i64 c.2.1, i64 c.2.2]]⟩)
      (inv := fun j => j ≤ 7) (fun j => 7 - j) 0 [0, 1, 2, 3] (by omega) (by
        refine Le.mk (by kernel_rfl) ?_ ?_ <;> repeat' (first | exact True.intro | refine And.intro ?_ ?_ | exact Imp.refl _ | exact Imp.any _ | exact rfl | exact Imp.num (congrArg (fun x : List (List SV) => (x.length : Int)) hds) | exact Imp.psl hds)) ?_
    intro j hj
    repeat' (conv => whnf
             first
             | (refine CondOb.mk (fun _ => ?_) (fun _ => ?_) <;> first | (exfalso; omega) | skip)
             | refine ArOb.fits (by first | omega | (simp only [ints_len] at *; omega)) ?_
             | refine LitOb.vec ?_
             | refine MakeOb.vec ?_
             | refine AllocOb.box ?_
             | refine AggOb.mk (by decide +kernel) ?_
             | refine ArU.fits (by first | omega | (simp only [ints_len] at *; omega)) ?_
             | refine ArB.fits (by first | omega | (simp only [ints_len] at *; omega)) ?_
             | refine CutOb.split ?_
             | refine And.intro (And.intro (by (simp only [List.length_append, List.length_take, List.length_drop, List.length_cons, List.length_nil, ints_len, List.length_replicate, Go.Cv.vals_len]; omega)) (by (simp only [List.length_append, List.length_take, List.length_drop, List.length_cons, List.length_nil, ints_len, List.length_replicate, Go.Cv.vals_len]; omega))) ?_
             | refine ⟨_, _, rfl, ints_get (by first | omega | (simp only [ints_len] at *; omega)), ?_⟩
             | refine ⟨_, _, (Int.toNat_of_nonneg (by first | omega | (simp only [ints_len] at *; omega))).symm, ints_get (by first | omega | (simp only [ints_len] at *; omega)), ?_⟩
             | refine DrawOb.mk [] (.qs [0, 1, 2, 7] (.l 3 [] (.l 4 [] (.l 5 [] (.qs [6] .nil) .no) .no) .no)) (by decide +kernel) ?_
             | fail)
    all_goals try (conv => whnf)
    · have hj7 : j < 7 := by have := ‹(j : Int) < ((crows ds).length : Int)›; omega
      obtain ⟨d, hd, hdb'⟩ := hdb j hj7
      have hdc : (crows ds)[j]? = some (crow d) := by simp [crows, List.getElem?_map, hd]
      refine ⟨j, _, rfl, hdc, ?_⟩
      repeat' (conv => whnf
               first
               | (refine CondOb.mk (fun _ => ?_) (fun _ => ?_) <;> first | (exfalso; omega) | skip)
               | refine ArOb.fits (by first | omega | (simp only [ints_len] at *; omega)) ?_
               | refine LitOb.vec ?_
               | refine MakeOb.vec ?_
               | refine AllocOb.box ?_
               | refine AggOb.mk (by decide +kernel) ?_
               | refine ArU.fits (by first | omega | (simp only [ints_len] at *; omega)) ?_
               | refine ArB.fits (by first | omega | (simp only [ints_len] at *; omega)) ?_
               | refine CutOb.split ?_
               | refine And.intro (And.intro (by (simp only [List.length_append, List.length_take, List.length_drop, List.length_cons, List.length_nil, ints_len, List.length_replicate, Go.Cv.vals_len]; omega)) (by (simp only [List.length_append, List.length_take, List.length_drop, List.length_cons, List.length_nil, ints_len, List.length_replicate, Go.Cv.vals_len]; omega))) ?_
               | refine ⟨_, _, rfl, ints_get (by first | omega | (simp only [ints_len] at *; omega)), ?_⟩
               | refine ⟨_, _, (Int.toNat_of_nonneg (by first | omega | (simp only [ints_len] at *; omega))).symm, ints_get (by first | omega | (simp only [ints_len] at *; omega)), ?_⟩
               | refine DrawOb.mk [] (.qs [0, 1, 2, 7] (.l 3 [] (.l 4 [] (.l 5 [] (.qs [6] .nil) .no) .no) .no)) (by decide +kernel) ?_
               | fail)
      all_goals try (conv => whnf)
      refine .mk [] ?_
      repeat' (conv => whnf
               first
               | refine ArOb.fits (by first | omega | (simp only [ints_len] at *; omega)) ?_
               | refine LitOb.vec ?_
               | refine MakeOb.vec ?_
               | refine AllocOb.box ?_
               | refine AggOb.mk (by decide +kernel) ?_
               | refine ArU.fits (by first | omega | (simp only [ints_len] at *; omega)) ?_
               | refine ArB.fits (by first | omega | (simp only [ints_len] at *; omega)) ?_
               | refine CutOb.split ?_
               | refine Gh.mk [] ?_
               | refine And.intro (And.intro (by (simp only [List.length_append, List.length_take, List.length_drop, List.length_cons, List.length_nil, ints_len, List.length_replicate, Go.Cv.vals_len]; omega)) (by (simp only [List.length_append, List.length_take, List.length_drop, List.length_cons, List.length_nil, ints_len, List.length_replicate, Go.Cv.vals_len]; omega))) ?_
               | refine ⟨_, _, rfl, ints_get (by first | omega | (simp only [ints_len] at *; omega)), ?_⟩
               | refine ⟨_, _, (Int.toNat_of_nonneg (by first | omega | (simp only [ints_len] at *; omega))).symm, ints_get (by first | omega | (simp only [ints_len] at *; omega)), ?_⟩
               | refine DrawOb.mk [] (.qs [0, 1, 2, 7] (.l 3 [] (.l 4 [] (.l 5 [] (.qs [6] .nil) .no) .no) .no)) (by decide +kernel) ?_
               | (refine CallOb.mk [] (spl4 (Rest_ok c.1 c.2.1 c.2.2 d.1 d.2.1 d.2.2 (by omega) (by omega))) rfl (ImpL.refl _) rfl rfl ?_; rintro _ _ ⟨a1, a2, a3, a4, hA, rfl, rfl⟩)
               | (refine CallOb.mk [] (spl4 (RRest_ok c.1 c.2.1 c.2.2 d.1 d.2.1 d.2.2)) rfl (ImpL.refl _) rfl rfl ?_; rintro _ _ ⟨b1, b2, b3, b4, hB, rfl, rfl⟩)
               | (refine CallOb.mk [] (spl4 (Above_ok c.1 c.2.1 c.2.2 d.1 d.2.1 d.2.2 (by omega) (by omega))) rfl (ImpL.refl _) rfl rfl ?_; rintro _ _ ⟨c1, c2, c3, c4, hC, rfl, rfl⟩)
               | (refine CallOb.mk [] (spl4 (RAbove_ok c.1 c.2.1 c.2.2 d.1 d.2.1 d.2.2)) rfl (ImpL.refl _) rfl rfl ?_; rintro _ _ ⟨d1, d2, d3, d4, hD, rfl, rfl⟩)
               | fail)
      all_goals try (conv => whnf)
      cases rest_uniq hA hB
      cases above_uniq hC hD
      have l1 := rest_len hA
      have l2 := above_len hC
      dsimp only at l1 l2
      clear hA hB hC hD
      repeat' (conv => whnf
               first
               | (refine CondOb.mk (fun _ => ?_) (fun _ => ?_) <;> first | (exfalso; omega) | skip)
               | refine ArOb.fits (by first | omega | (simp only [ints_len] at *; omega)) ?_
               | refine LitOb.vec ?_
               | refine MakeOb.vec ?_
               | refine AllocOb.box ?_
               | refine AggOb.mk (by decide +kernel) ?_
               | refine ArU.fits (by first | omega | (simp only [ints_len] at *; omega)) ?_
               | refine ArB.fits (by first | omega | (simp only [ints_len] at *; omega)) ?_
               | refine CutOb.split ?_
               | refine Gh.mk [] ?_
               | refine And.intro (And.intro (by (simp only [List.length_append, List.length_take, List.length_drop, List.length_cons, List.length_nil, ints_len, List.length_replicate, Go.Cv.vals_len]; omega)) (by (simp only [List.length_append, List.length_take, List.length_drop, List.length_cons, List.length_nil, ints_len, List.length_replicate, Go.Cv.vals_len]; omega))) ?_
               | refine ⟨_, _, rfl, ints_get (by first | omega | (simp only [ints_len] at *; omega)), ?_⟩
               | refine ⟨_, _, (Int.toNat_of_nonneg (by first | omega | (simp only [ints_len] at *; omega))).symm, ints_get (by first | omega | (simp only [ints_len] at *; omega)), ?_⟩
               | refine DrawOb.mk [] (.qs [0, 1, 2, 7] (.l 3 [] (.l 4 [] (.l 5 [] (.qs [6] .nil) .no) .no) .no)) (by decide +kernel) ?_
               | (refine CallOb.mk [] (Same_ok a1 a1 a2 a3 a2 a3 (by omega)) rfl (ImpL.refl _) rfl rfl ?_; rintro _ _ ⟨rfl, rfl⟩)
               | (refine CallOb.mk [] (Same_ok c1 c1 c2 c3 c2 c3 (by omega)) rfl (ImpL.refl _) rfl rfl ?_; rintro _ _ ⟨rfl, rfl⟩)
               | fail)
      all_goals try (conv => whnf)
      all_goals first | exact absurd ⟨rfl, rfl, rfl⟩ ‹¬(c1 = c1 ∧ c2 = c2 ∧ c3 = c3)› | exact absurd ⟨rfl, rfl, rfl⟩ ‹¬(a1 = a1 ∧ a2 = a2 ∧ a3 = a3)› | exact ⟨j + 1, [0, 1, 2, 3], by omega, by omega, by (refine Le.mk (by kernel_rfl) ?_ ?_ <;> repeat' (first | exact True.intro | refine And.intro ?_ ?_ | exact Imp.refl _ | exact Imp.any _ | exact Imp.num (by first | omega | simp only [ints_len]) | exact rfl))⟩ | trace_state
    · refine .mk [] ?_
      repeat' (conv => whnf
               first
               | (refine CondOb.mk (fun _ => ?_) (fun _ => ?_) <;> first | (exfalso; omega) | skip)
               | refine ArOb.fits (by first | omega | (simp only [ints_len] at *; omega)) ?_
               | refine LitOb.vec ?_
               | refine MakeOb.vec ?_
               | refine AllocOb.box ?_
               | refine AggOb.mk (by decide +kernel) ?_
               | refine ArU.fits (by first | omega | (simp only [ints_len] at *; omega)) ?_
               | refine ArB.fits (by first | omega | (simp only [ints_len] at *; omega)) ?_
               | refine CutOb.split ?_
               | refine Gh.mk [] ?_
               | refine And.intro (And.intro (by (simp only [List.length_append, List.length_take, List.length_drop, List.length_cons, List.length_nil, ints_len, List.length_replicate, Go.Cv.vals_len]; omega)) (by (simp only [List.length_append, List.length_take, List.length_drop, List.length_cons, List.length_nil, ints_len, List.length_replicate, Go.Cv.vals_len]; omega))) ?_
               | refine ⟨_, _, rfl, ints_get (by first | omega | (simp only [ints_len] at *; omega)), ?_⟩
               | refine ⟨_, _, (Int.toNat_of_nonneg (by first | omega | (simp only [ints_len] at *; omega))).symm, ints_get (by first | omega | (simp only [ints_len] at *; omega)), ?_⟩
               | refine DrawOb.mk [] (.qs [0, 1, 2, 7] (.l 3 [] (.l 4 [] (.l 5 [] (.qs [6] .nil) .no) .no) .no)) (by decide +kernel) ?_
               | fail)
      all_goals try (conv => whnf)
      exact ⟨(i + 1, ks), [0, 1, 2], ⟨by simp only; omega, hks⟩, by simp only; omega, by (refine Le.mk (by kernel_rfl) ?_ ?_ <;> repeat' (first | exact True.intro | refine And.intro ?_ ?_ | exact Imp.refl _ | exact Imp.any _ | exact Imp.num (by first | omega | simp only [ints_len]) | exact rfl))⟩
  · refine .mk [] ?_
    repeat' (conv => whnf
             first
             | (refine CondOb.mk (fun _ => ?_) (fun _ => ?_) <;> first | (exfalso; omega) | skip)
             | refine ArOb.fits (by first | omega | (simp only [ints_len] at *; omega)) ?_
             | refine LitOb.vec ?_
             | refine MakeOb.vec ?_
             | refine AllocOb.box ?_
             | refine AggOb.mk (by decide +kernel) ?_
             | refine ArU.fits (by first | omega | (simp only [ints_len] at *; omega)) ?_
             | refine ArB.fits (by first | omega | (simp only [ints_len] at *; omega)) ?_
             | refine CutOb.split ?_
             | refine Gh.mk [] ?_
             | refine And.intro (And.intro (by (simp only [List.length_append, List.length_take, List.length_drop, List.length_cons, List.length_nil, ints_len, List.length_replicate, Go.Cv.vals_len]; omega)) (by (simp only [List.length_append, List.length_take, List.length_drop, List.length_cons, List.length_nil, ints_len, List.length_replicate, Go.Cv.vals_len]; omega))) ?_
             | refine ⟨_, _, rfl, ints_get (by first | omega | (simp only [ints_len] at *; omega)), ?_⟩
             | refine ⟨_, _, (Int.toNat_of_nonneg (by first | omega | (simp only [ints_len] at *; omega))).symm, ints_get (by first | omega | (simp only [ints_len] at *; omega)), ?_⟩
             | refine DrawOb.mk [] (.qs [0, 1, 2, 7] (.l 3 [] (.l 4 [] (.l 5 [] (.qs [6] .nil) .no) .no) .no)) (by decide +kernel) ?_
             | (refine CallOb.mk [] (awake_ok) rfl (ImpL.refl _) rfl rfl ?_; rintro _ _ ⟨rfl, rfl⟩)
             | fail)
    all_goals try (conv => whnf)
    exact rfl
end Go.Proofs.Ytppdpfaipkjpmaa
