/-
  A text of the proofs of this seat: lemmas that the statements' proofs use; it states nothing of the program by itself beyond the contracts that its theorems bear. Conditions: those that stand in each theorem. Its short name: Qo.
-/
import Derived.Test.YtbdahmfjeklgbaaQm
set_option linter.unusedVariables false
set_option linter.unusedSimpArgs false
namespace Go.Proofs.Ytbdahmfjeklgbaa
open Go.Sx Go.Fq Go.Dt
set_option maxRecDepth 4000
set_option maxHeartbeats 2000000
--APPX fr_len, rw_len
theorem aP_Qo {A B K : Prop} (k : K) (a : A := by (simp only [zA, zT, zD, zC, zN, ints_len, zR, fr_len, rw_len]; omega)) (b : B := by (simp only [zA, zT, zD, zC, zN, ints_len, zR, fr_len, rw_len]; omega)) : (A ∧ B) ∧ K := ⟨⟨a, b⟩, k⟩
theorem Corners_ok (l : List Int) (hl : l.length ≤ 9223372036854775807) : Ctr Try.prog 4 [.psl 1 (ints l)] [] (fun r o => r = .bl true) := by
  refine fn_intro (E := env 0) tys_ok rfl rfl rfl Try.func4 (by kernel_rfl) rfl (by kernel_rfl) ?_
  have hL : (l.take 2000).length ≤ 2000 := by rw [List.length_take]; omega
  (repeat' (conv => whnf); first | (refine aC (fun _ => ?_) (fun _ => ?_) <;> try (exfalso; omega)) | refine aS ?_ | refine aG ?_ | refine aD ?_ | refine aH ?_ | refine aP_Qo ?_ | refine aI ?_ | refine aJ ?_ | (refine aK [] (lsane_ok) ?_) | (refine aK [] (New_ok l hl) ?_) | fail); all_goals try (conv => whnf)
  · rfl
  refine CallOb.mk [0] (Programme_ok' _ 0 hL (by omega)) rfl (ImpL.refl _) rfl rfl ?_
  rintro _ _ ⟨⟨p, k1⟩, ⟨hvp, hp4, hr4, hk1, hsm⟩, rfl, rfl⟩
  dsimp only at hvp hp4 hr4 hk1 hsm ⊢
  have hint : ∀ f ∈ p.c, f.2 = 1 ∧ f.1.natAbs ≤ 10 := fun f hf => (hsm.sml hp4 hr4).c f hf
  have hsm := hsm.sml hp4 hr4
  have hlc := fr_len p.c
  have hlr := rw_len p.r
  (repeat' (conv => whnf); first | (refine aC (fun _ => ?_) (fun _ => ?_) <;> try (exfalso; omega)) | refine aS ?_ | refine aG ?_ | refine aD ?_ | refine aH ?_ | refine aP_Qo ?_ | refine aI ?_ | refine aJ ?_ | fail); all_goals try (conv => whnf)
  have cA := Solve_ok' p (VP.pl hvp)
  refine CallOb.mk [] cA rfl (ImpL.refl _) rfl rfl ?_
  rintro _ _ ⟨⟨⟨s1, X1, v1, Y1, Z1⟩, e1⟩, hA, rfl, rfl⟩
  obtain ⟨rfl, hA1, hA2⟩ := hA.small hvp hsm
  dsimp only at hA1 hA2 ⊢
  (repeat' (conv => whnf); first | (refine aC (fun _ => ?_) (fun _ => ?_) <;> try (exfalso; omega)) | refine aS ?_ | refine aG ?_ | refine aD ?_ | refine aH ?_ | refine aP_Qo ?_ | refine aI ?_ | refine aJ ?_ | fail); all_goals try (conv => whnf)
  refine LoopOb.mk (Y := Nat) (st := fun k => ⟨[(8, i64 k), (7, i64 p.c.length), (5, .ptr 2 0), (4, .ptr 1 0)], [.box [.psl 1 (ints (l.take 2000)), i64 k1], .box [fsl p.c, .psl 4 (rws p.r)], .box [i64 s1, fsl X1, i64 v1.1, i64 v1.2, fsl Y1, fsl Z1]]⟩)
    (inv := fun k => k ≤ 81) (fun k => 81 - k) 0 [0, 1, 2] (by omega) (by rw [hlc]; (exact aL)) ?_
  intro k hk
  (repeat' (conv => whnf); first | refine aS ?_ | refine aG ?_ | refine aD ?_ | refine aH ?_ | refine aP_Qo ?_ | refine aI ?_ | refine aJ ?_ | fail); all_goals try (conv => whnf)
  refine CondOb.mk (fun hlt => ?_) (fun hlt => ?_)
  · (repeat' (conv => whnf); first | refine aS ?_ | refine aG ?_ | refine aD ?_ | refine aH ?_ | refine aP_Qo ?_ | refine aI ?_ | refine aJ ?_ | fail); all_goals try (conv => whnf)
    refine LoopOb.mk (Y := List F × Int) (st := fun y => ⟨[(11, i64 y.2), (10, i64 y.1.length), (9, .vec 3), (8, i64 k), (7, i64 p.c.length), (5, .ptr 2 0), (4, .ptr 1 0)], [.box [.psl 1 (ints (l.take 2000)), i64 k1], .box [fsl p.c, .psl 4 (rws p.r)], .box [i64 s1, fsl X1, i64 v1.1, i64 v1.2, fsl Y1, fsl Z1], .vec 2 (fr2 y.1)]⟩)
      (inv := fun y => y.1.length ≤ p.c.length ∧ (∀ f ∈ y.1, f.2 = 1 ∧ f.1.natAbs ≤ 5) ∧ 0 ≤ y.2 ∧ y.2 ≤ 81) (fun y => p.c.length - y.1.length) ([], k) [0, 1, 2, 3] ⟨by simp, by simp, by dsimp only; omega, by dsimp only; omega⟩ (by (exact aL)) ?_
    rintro ⟨x, m⟩ ⟨hx, hxi, hm0, hm1⟩
    dsimp only at hx hxi hm0 hm1 ⊢
    have hlx := fr_len x
    (repeat' (conv => whnf); first | refine aS ?_ | refine aG ?_ | refine aD ?_ | refine aH ?_ | refine aP_Qo ?_ | refine aI ?_ | refine aJ ?_ | fail); all_goals try (conv => whnf)
    refine CondOb.mk (fun hlt2 => ?_) (fun hlt2 => ?_)
    · obtain ⟨d, i, hd, e, hg⟩ : ∃ (d : Int) (i : Nat), (0 ≤ d ∧ d ≤ 5) ∧ m.tmod 3 = i ∧ ([[i64 0], [i64 1], [i64 5]] : List (List SV))[i]? = some [i64 d] := by
        rw [Int.tmod_eq_emod_of_nonneg hm0]
        rcases (show m % 3 = 0 ∨ m % 3 = 1 ∨ m % 3 = 2 by omega) with h | h | h
        · exact ⟨0, 0, by omega, by omega, rfl⟩
        · exact ⟨1, 1, by omega, by omega, rfl⟩
        · exact ⟨5, 2, by omega, by omega, rfl⟩
      have ed : m.tdiv 3 = m / 3 := Int.tdiv_eq_ediv_of_nonneg hm0
      have ha : ∀ f ∈ x ++ [(d, 1)], f.2 = 1 ∧ f.1.natAbs ≤ 5 := fun f hf => by
        rcases List.mem_append.1 hf with h | h
        · exact hxi f h
        · rw [List.mem_singleton.1 h]; exact ⟨rfl, by dsimp only; omega⟩
      (repeat' (conv => whnf); first | refine LitOb.ful ?_ | refine aC (fun _ => ?_) (fun _ => ?_) | refine aS ?_ | refine aG ?_ | refine aD ?_ | refine aH ?_ | refine aP_Qo ?_ | refine aI ?_ | refine aJ ?_ | refine ⟨i, _, e, hg, ?_⟩ | (refine aK [] (lwhole_ok d) ?_) | refine And.intro ?_ ?_ | fail); all_goals try (conv => whnf)
      all_goals first | (exact fun h => absurd h (by decide)) | exact ⟨(x ++ [(d, 1)], m.tdiv 3), [0, 1, 2, 4], ⟨by simp only [List.length_append, List.length_singleton]; omega, ha, by dsimp only; omega, by dsimp only; omega⟩, by simp only [List.length_append, List.length_singleton]; omega, by dsimp only; rw [fr2_append, List.length_append, List.length_singleton]; (exact aL)⟩
    have hxl : x.length = p.c.length := by omega
    have hvx : ∀ f ∈ x, VF f := fun f hf => by
      obtain ⟨a, b⟩ := hxi f hf
      obtain ⟨u, w⟩ := f
      dsimp only at a b; subst a
      exact vf_int (by omega) (by omega)
    have hp0 : (prod p.c x).2.2 = 0 := prod_ints (by omega) hp4 hvp.2.2.2.1 hvx hint hxi
    have cF := rFeasible_ok p (VP.pl hvp) x (by omega)
    have cP := rProduct_ok p.c x (by omega)
    have hcor : Feas p x → s1 ≠ 3 ∧ (s1 = 1 → ¬fcmp ((prod p.c x).1, (prod p.c x).2.1) v1 < 0) := fun hf => corner hf hp0 hA1 hA2
    generalize Feas p x = Q at *
    generalize prod p.c x = c at *
    have cC := rCompare_ok c.1 c.2.1 v1.1 v1.2
    rw [show (v1.1, v1.2) = v1 from rfl] at cC
    generalize fcmp (c.1, c.2.1) v1 = z at *
    (repeat' (conv => whnf); first | refine aC (fun _ => ?_) (fun _ => ?_) | refine aS ?_ | refine aG ?_ | refine aD ?_ | refine aP_Qo ?_ | refine aI ?_ | refine aJ ?_ | fail); all_goals try (conv => whnf)
    refine .mk [.fz 3] ?_
    (repeat' (conv => whnf); first | (refine aC (fun _ => ?_) (fun _ => ?_) <;> try (exfalso; omega)) | refine aS ?_ | refine aG ?_ | refine aD ?_ | refine aH ?_ | refine aP_Qo ?_ | refine aI ?_ | refine aJ ?_ | (refine aK [] cF ?_) | (refine aK [] cP ?_) | (refine aK [] cC ?_) | refine And.intro ?_ ?_ | fail); all_goals try (conv => whnf)
    all_goals first
      | exact ⟨k + 1, [0, 1, 2], by omega, by omega, by (exact aL)⟩
      | (exfalso; have hq := hcor (Classical.not_not.1 (by assumption)); clear cF cP cC cA hA hA1 hA2 hcor hsm hvp hint hvx hxi; simp_all [conj]; done)
      | (exfalso; have hq := hcor (Classical.not_not.1 (by assumption)); clear cF cP cC cA hA hA1 hA2 hcor hsm hvp hint hvx hxi; simp_all [conj]; omega)
      | trace_state
  · (repeat' (conv => whnf); first | refine aC (fun _ => ?_) (fun _ => ?_) | refine aS ?_ | refine aG ?_ | refine aD ?_ | refine aH ?_ | refine aP_Qo ?_ | refine aI ?_ | refine aJ ?_ | (refine aK [] (lsane_ok) ?_) | fail); all_goals try (conv => whnf)
    rfl
end Go.Proofs.Ytbdahmfjeklgbaa
