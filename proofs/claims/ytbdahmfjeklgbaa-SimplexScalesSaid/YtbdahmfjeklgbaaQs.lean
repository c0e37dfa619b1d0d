/-
  A text of the proofs of this seat: lemmas that the statements' proofs use; it states nothing of the program by itself beyond the contracts that its theorems bear. Conditions: those that stand in each theorem. Its short name: Qs.
-/
import Derived.Test.YtbdahmfjeklgbaaQp
import Derived.Test.YtbdahmfjeklgbaaF2
set_option linter.unusedVariables false
set_option linter.unusedSimpArgs false
namespace Go.Proofs.Ytbdahmfjeklgbaa
open Go.Sx Go.Fq Go.Dt
set_option maxRecDepth 4000
set_option maxHeartbeats 2000000
--APPX fr_len, rw_len
theorem aP_Qs {A B K : Prop} (k : K) (a : A := by (simp only [zA, zT, zD, zC, zN, ints_len, zR, fr_len, rw_len]; omega)) (b : B := by (simp only [zA, zT, zD, zC, zN, ints_len, zR, fr_len, rw_len]; omega)) : (A ∧ B) ∧ K := ⟨⟨a, b⟩, k⟩
theorem whole2_ok (v : F) (n : Int) : Ctr Try.prog 12 [.agg [i64 v.1, i64 v.2], i64 n] [] (fun r o => o = [] ∧ r = .agg [i64 (fmul v (n, 1)).1, i64 (fmul v (n, 1)).2.1]) := by
  refine fn_intro (E := env 0) tys_ok rfl rfl rfl Try.func12 (by kernel_rfl) rfl (by kernel_rfl) ?_
  have cM := rMul_ok v.1 v.2 n 1
  rw [show (v.1, v.2) = v from rfl] at cM
  generalize fmul v (n, 1) = z at *
  (repeat' (conv => whnf); first | (refine aC (fun _ => ?_) (fun _ => ?_) <;> try (exfalso; omega)) | refine aS ?_ | refine aG ?_ | refine aD ?_ | refine aH ?_ | refine aP_Qs ?_ | refine aI ?_ | refine aJ ?_ | refine aW (.qs [0, 1] (.l 2 [0] (.l 3 [] (.qs [4, 5, 6] (.l 7 [] (.l 8 [] (.qs [9] .nil) .no) .no)) (.l 7 [0] (.l 3 [] (.qs [4, 5, 6] (.l 8 [] (.qs [9] .nil) .no)) .no) .no)) (.l 7 [0] (.l 2 [0] (.l 3 [] (.qs [4, 5, 6] (.l 8 [] (.qs [9] .nil) .no)) .no) .no) .no))) ?_ | (refine aK [] (lwhole_ok n) ?_) | (refine aK [] cM ?_) | refine And.intro ?_ ?_ | fail); all_goals try (conv => whnf)
  all_goals first | rfl | exact ⟨rfl, rfl⟩
theorem Scales_ok (l : List Int) (hl : l.length ≤ 9223372036854775807) (kk : Int) (hk0 : 0 ≤ kk) (hk1 : kk ≤ 255) : Ctr Try.prog 3 [.psl 1 (ints l), .num .u8 kk] [] (fun r o => r = .bl true) := by
  refine fn_intro (E := env 0) tys_ok rfl rfl rfl Try.func3 (by kernel_rfl) rfl (by kernel_rfl) ?_
  have hL : (l.take 2000).length ≤ 2000 := by rw [List.length_take]; omega
  (repeat' (conv => whnf); first | (refine aC (fun _ => ?_) (fun _ => ?_) <;> try (exfalso; omega)) | refine aS ?_ | refine aG ?_ | refine aD ?_ | refine aH ?_ | refine aP_Qs ?_ | refine aI ?_ | refine aJ ?_ | refine aW (.qs [0, 1, 2, 3, 4, 5, 6] (.l 7 [1] (.l 8 [] (.qs [9] (.l 10 [] .nil .no)) .no) .no)) ?_ | refine aW (.qs [0, 1, 2, 3, 4, 5, 6, 7, 8, 9, 10, 11] (.l 12 [1] (.l 13 [] (.qs [14] (.l 15 [] .nil .no)) .no) .no)) ?_ | refine aW (.qs [0, 1, 2] (.l 3 [1] (.l 4 [1] (.l 5 [] (.qs [6] (.l 7 [] .nil .no)) .no) .no) .no)) ?_ | refine aW (.qs [0, 1, 2, 3, 4, 5, 6, 7, 8, 9, 10, 11, 12, 13, 14, 15, 16, 17] (.l 18 [14] (.qs [19, 20, 21, 22] .nil) .no)) ?_ | (refine aK [] (lsane_ok) ?_) | (refine aK [] (New_ok l hl) ?_) | fail); all_goals try (conv => whnf)
  · rfl
  refine CallOb.mk [0] (Programme_ok' _ 0 hL (by omega)) rfl (ImpL.refl _) rfl rfl ?_
  rintro _ _ ⟨⟨p, k1⟩, ⟨hvp, hp4, hr4, hk1', hsm⟩, rfl, rfl⟩
  dsimp only at hvp hp4 hr4 hk1' hsm ⊢
  have hsm := hsm.sml hp4 hr4
  have hlc := fr_len p.c
  have hlr := rw_len p.r
  (repeat' (conv => whnf); first | (refine aC (fun _ => ?_) (fun _ => ?_) <;> try (exfalso; omega)) | refine aS ?_ | refine aG ?_ | refine aD ?_ | refine aH ?_ | refine aP_Qs ?_ | refine aI ?_ | refine aJ ?_ | refine aW (.qs [0, 1, 2, 3, 4, 5, 6] (.l 7 [1] (.l 8 [] (.qs [9] (.l 10 [] .nil .no)) .no) .no)) ?_ | refine aW (.qs [0, 1, 2, 3, 4, 5, 6, 7, 8, 9, 10, 11] (.l 12 [1] (.l 13 [] (.qs [14] (.l 15 [] .nil .no)) .no) .no)) ?_ | refine aW (.qs [0, 1, 2] (.l 3 [1] (.l 4 [1] (.l 5 [] (.qs [6] (.l 7 [] .nil .no)) .no) .no) .no)) ?_ | refine aW (.qs [0, 1, 2, 3, 4, 5, 6, 7, 8, 9, 10, 11, 12, 13, 14, 15, 16, 17] (.l 18 [14] (.qs [19, 20, 21, 22] .nil) .no)) ?_ | fail); all_goals try (conv => whnf)
  have cA := Solve_ok' p (VP.pl hvp)
  refine CallOb.mk [] cA rfl (ImpL.refl _) rfl rfl ?_
  rintro _ _ ⟨⟨⟨s1, X1, v1, Y1, Z1⟩, e1⟩, hA, rfl, rfl⟩
  obtain ⟨rfl, hA1, hA2⟩ := hA.small hvp hsm
  dsimp only at hA1 hA2 ⊢
  (repeat' (conv => whnf); first | refine DrawOb.cut (Y := Unit) [] (.qs [0, 1, 2] (.l 3 [2, 1, 0] (.l 4 [2, 1, 0] (.l 5 [2, 1, 0] (.l 6 [2, 1] (.l 7 [2] (.l 8 [] .nil .no) .no) .no) .no) (.l 5 [2, 1, 0] (.l 4 [2, 1, 0] (.l 6 [2, 1] (.l 7 [2] (.l 8 [] .nil .no) .no) .no) .no) .no)) (.l 4 [2, 1, 0] (.l 3 [2, 1, 0] (.l 5 [2, 1, 0] (.l 6 [2, 1] (.l 7 [2] (.l 8 [] .nil .no) .no) .no) .no) (.l 5 [2, 1, 0] (.l 3 [2, 1, 0] (.l 6 [2, 1] (.l 7 [2] (.l 8 [] .nil .no) .no) .no) .no) .no)) (.l 5 [2, 1, 0] (.l 3 [2, 1, 0] (.l 4 [2, 1, 0] (.l 6 [2, 1] (.l 7 [2] (.l 8 [] .nil .no) .no) .no) .no) (.l 4 [2, 1, 0] (.l 3 [2, 1, 0] (.l 6 [2, 1] (.l 7 [2] (.l 8 [] .nil .no) .no) .no) .no) .no)) .no)))) (fun _ => ⟨[(11, .ptr 5 0), (10, .ptr 4 0), (9, .ptr 3 0), (7, .ptr 2 0), (6, .ptr 1 0), (5, .ptr 0 0), (1, .num .u8 kk)], [src (l.take 2000) k1, .box [fsl p.c, .psl 4 (rws p.r)], .box [i64 s1, fsl X1, i64 v1.1, i64 v1.2, fsl Y1, fsl Z1], .box [fsl p.c, .psl 4 (rws p.r)], .box [fsl p.c, .psl 4 (rws p.r)], .box [fsl p.c, .psl 4 (rws p.r)]]⟩) (fun _ => True) (by decide +kernel) ?_ ?_ | (refine aC (fun _ => ?_) (fun _ => ?_) <;> try (exfalso; omega)) | refine aS ?_ | refine aG ?_ | refine aD ?_ | refine aH ?_ | refine aP_Qs ?_ | refine aI ?_ | refine aJ ?_ | refine aW (.qs [0, 1, 2] (.l 3 [2, 1, 0] (.l 4 [2, 1, 0] (.l 5 [2, 1, 0] (.l 6 [2, 1] (.l 7 [2] (.l 8 [] .nil .no) .no) .no) .no) (.l 5 [2, 1, 0] (.l 4 [2, 1, 0] (.l 6 [2, 1] (.l 7 [2] (.l 8 [] .nil .no) .no) .no) .no) .no)) (.l 4 [2, 1, 0] (.l 3 [2, 1, 0] (.l 5 [2, 1, 0] (.l 6 [2, 1] (.l 7 [2] (.l 8 [] .nil .no) .no) .no) .no) (.l 5 [2, 1, 0] (.l 3 [2, 1, 0] (.l 6 [2, 1] (.l 7 [2] (.l 8 [] .nil .no) .no) .no) .no) .no)) (.l 5 [2, 1, 0] (.l 3 [2, 1, 0] (.l 4 [2, 1, 0] (.l 6 [2, 1] (.l 7 [2] (.l 8 [] .nil .no) .no) .no) .no) (.l 4 [2, 1, 0] (.l 3 [2, 1, 0] (.l 6 [2, 1] (.l 7 [2] (.l 8 [] .nil .no) .no) .no) .no) .no)) .no)))) ?_ | refine aW (.qs [0, 1, 2, 3, 4, 5, 6] (.l 7 [1] (.l 8 [] (.qs [9] (.l 10 [] .nil .no)) .no) .no)) ?_ | refine aW (.qs [0, 1, 2, 3, 4, 5, 6, 7, 8, 9, 10, 11] (.l 12 [1] (.l 13 [] (.qs [14] (.l 15 [] .nil .no)) .no) .no)) ?_ | refine aW (.qs [0, 1, 2] (.l 3 [1] (.l 4 [1] (.l 5 [] (.qs [6] (.l 7 [] .nil .no)) .no) .no) .no)) ?_ | refine aW (.qs [0, 1, 3] (.l 2 [3] (.l 4 [] (.l 5 [] (.qs [6] (.l 7 [] .nil .no)) .no) .no) (.l 4 [1] (.l 2 [] (.l 5 [] (.qs [6] (.l 7 [] .nil .no)) .no) .no) .no))) ?_ | refine aW (.qs [0, 1, 2, 3, 4, 5, 6, 7, 8, 9, 10, 11, 12, 13, 14, 15, 16, 17] (.l 18 [14] (.qs [19, 20, 21, 22] .nil) .no)) ?_ | refine And.intro ?_ ?_ | fail); all_goals try (conv => whnf)
  · exact ⟨(), [0, 1, 2, 3, 4, 5], trivial, by (exact aL)⟩
  · exact ⟨(), [0, 1, 2, 3, 5, 4], trivial, by (exact aL)⟩
  · exact ⟨(), [0, 1, 2, 4, 3, 5], trivial, by (exact aL)⟩
  · exact ⟨(), [0, 1, 2, 5, 3, 4], trivial, by (exact aL)⟩
  · exact ⟨(), [0, 1, 2, 4, 5, 3], trivial, by (exact aL)⟩
  · exact ⟨(), [0, 1, 2, 5, 4, 3], trivial, by (exact aL)⟩
  rintro - -
  (repeat' (conv => whnf); first | refine aC (fun _ => ?_) (fun _ => ?_) | refine aS ?_ | refine aG ?_ | refine aD ?_ | refine aP_Qs ?_ | refine aI ?_ | refine aJ ?_ | refine aW (.qs [0, 1, 2, 3, 4, 5, 6] (.l 7 [1] (.l 8 [] (.qs [9] (.l 10 [] .nil .no)) .no) .no)) ?_ | refine aW (.qs [0, 1, 2, 3, 4, 5, 6, 7, 8, 9, 10, 11] (.l 12 [1] (.l 13 [] (.qs [14] (.l 15 [] .nil .no)) .no) .no)) ?_ | refine aW (.qs [0, 1, 2] (.l 3 [1] (.l 4 [1] (.l 5 [] (.qs [6] (.l 7 [] .nil .no)) .no) .no) .no)) ?_ | refine aW (.qs [0, 1, 2, 3, 4, 5, 6, 7, 8, 9, 10, 11, 12, 13, 14, 15, 16, 17] (.l 18 [14] (.qs [19, 20, 21, 22] .nil) .no)) ?_ | fail); all_goals try (conv => whnf)
  refine ⟨by decide, ?_⟩
  have hn1 : (1 : Int) ≤ 1 + kk.tmod 3 ∧ 1 + kk.tmod 3 ≤ 3 := by rw [Int.tmod_eq_emod_of_nonneg hk0]; omega
  generalize hn : kk.tmod 3 = n0 at *
  (repeat' (conv => whnf); first | refine aC (fun _ => ?_) (fun _ => ?_) | refine aS ?_ | refine aG ?_ | refine aD ?_ | refine aP_Qs ?_ | refine aI ?_ | refine aJ ?_ | refine aW (.qs [0, 1, 2, 3, 4, 5, 6] (.l 7 [1] (.l 8 [] (.qs [9] (.l 10 [] .nil .no)) .no) .no)) ?_ | refine aW (.qs [0, 1, 2, 3, 4, 5, 6, 7, 8, 9, 10, 11] (.l 12 [1] (.l 13 [] (.qs [14] (.l 15 [] .nil .no)) .no) .no)) ?_ | refine aW (.qs [0, 1, 2] (.l 3 [1] (.l 4 [1] (.l 5 [] (.qs [6] (.l 7 [] .nil .no)) .no) .no) .no)) ?_ | refine aW (.qs [0, 1, 2, 3, 4, 5, 6, 7, 8, 9, 10, 11, 12, 13, 14, 15, 16, 17] (.l 18 [14] (.qs [19, 20, 21, 22] .nil) .no)) ?_ | fail); all_goals try (conv => whnf)
  generalize hn' : 1 + n0 = n at *

  refine .mk [.nb 3 0 2] ?_
  refine LoopOb.mk (Y := Nat) (st := fun j => ⟨[(49, i64 j), (48, i64 p.c.length), (47, fsl p.c), (12, i64 n), (11, .ptr 5 0), (10, .ptr 4 0), (9, .ptr 3 0), (7, .ptr 2 0), (6, .ptr 1 0), (5, .ptr 0 0), (1, .num .u8 kk)], [src (l.take 2000) k1, .box [fsl p.c, .psl 4 (rws p.r)], .box [i64 s1, fsl X1, i64 v1.1, i64 v1.2, fsl Y1, fsl Z1], .box [.vec 6, .psl 4 (rws p.r)], .box [fsl p.c, .psl 4 (rws p.r)], .box [fsl p.c, .psl 4 (rws p.r)], .vec 2 (fr2 ((p.c.take j).map fun f => (f.1 * n, 1)))]⟩)
    (inv := fun j => j ≤ p.c.length) (fun j => p.c.length - j) 0 [0, 1, 2, 3, 4, 5, 6] (by omega) (by rw [hlc]; (exact aL)) ?_
  intro j hj
  (repeat' (conv => whnf); first | refine aS ?_ | refine aG ?_ | refine aD ?_ | refine aH ?_ | refine aP_Qs ?_ | refine aI ?_ | refine aJ ?_ | refine aW (.qs [0, 1, 2, 3, 4, 5, 6] (.l 7 [1] (.l 8 [] (.qs [9] (.l 10 [] .nil .no)) .no) .no)) ?_ | refine aW (.qs [0, 1, 2, 3, 4, 5, 6, 7, 8, 9, 10, 11] (.l 12 [1] (.l 13 [] (.qs [14] (.l 15 [] .nil .no)) .no) .no)) ?_ | refine aW (.qs [0, 1, 2] (.l 3 [1] (.l 4 [1] (.l 5 [] (.qs [6] (.l 7 [] .nil .no)) .no) .no) .no)) ?_ | refine aW (.qs [0, 1, 2, 3, 4, 5, 6, 7, 8, 9, 10, 11, 12, 13, 14, 15, 16, 17] (.l 18 [14] (.qs [19, 20, 21, 22] .nil) .no)) ?_ | fail); all_goals try (conv => whnf)
  refine CondOb.mk (fun hlt => ?_) (fun hlt => ?_)
  · have hjl : j < p.c.length := by omega
    have hgj := fr_get (l := p.c) hjl
    have htk : (p.c.take (j + 1)).map (fun f => (f.1 * n, (1 : Int))) = (p.c.take j).map (fun f => (f.1 * n, 1)) ++ [((p.c.getD j (0, 1)).1 * n, 1)] := by
      rw [List.take_succ_eq_append_getElem hjl, List.map_append, List.getD_eq_getElem?_getD, List.getElem?_eq_getElem hjl]; rfl
    have hb : -100 ≤ (p.c.getD j (0, 1)).1 * n ∧ (p.c.getD j (0, 1)).1 * n ≤ 100 := by
      have := (hsm.c _ (gd_mem (d := ((0, 1) : F)) hjl)).2
      rcases (show n = 1 ∨ n = 2 ∨ n = 3 by omega) with h | h | h <;> subst h <;> omega
    have hll : ((p.c.take j).map fun f => (f.1 * n, (1 : Int))).length = j := by simp; omega
    generalize (p.c.take j).map (fun f => (f.1 * n, (1 : Int))) = c' at *
    generalize p.c.getD j (0, 1) = x at *
    have hl' := fr_len c'
    (repeat' (conv => whnf); first | refine ⟨j, _, rfl, hgj, ?_⟩ | refine aC (fun _ => ?_) (fun _ => ?_) | refine aS ?_ | refine aG ?_ | refine aD ?_ | refine aH ?_ | refine aP_Qs ?_ | refine aI ?_ | refine aJ ?_ | refine aW (.qs [0, 1, 2] (.l 3 [2, 1, 0] (.l 4 [2, 1, 0] (.l 5 [2, 1, 0] (.l 6 [2, 1] (.l 7 [2] (.l 8 [] .nil .no) .no) .no) .no) (.l 5 [2, 1, 0] (.l 4 [2, 1, 0] (.l 6 [2, 1] (.l 7 [2] (.l 8 [] .nil .no) .no) .no) .no) .no)) (.l 4 [2, 1, 0] (.l 3 [2, 1, 0] (.l 5 [2, 1, 0] (.l 6 [2, 1] (.l 7 [2] (.l 8 [] .nil .no) .no) .no) .no) (.l 5 [2, 1, 0] (.l 3 [2, 1, 0] (.l 6 [2, 1] (.l 7 [2] (.l 8 [] .nil .no) .no) .no) .no) .no)) (.l 5 [2, 1, 0] (.l 3 [2, 1, 0] (.l 4 [2, 1, 0] (.l 6 [2, 1] (.l 7 [2] (.l 8 [] .nil .no) .no) .no) .no) (.l 4 [2, 1, 0] (.l 3 [2, 1, 0] (.l 6 [2, 1] (.l 7 [2] (.l 8 [] .nil .no) .no) .no) .no) .no)) .no)))) ?_ | refine aW (.qs [0, 1, 2, 3, 4, 5, 6] (.l 7 [1] (.l 8 [] (.qs [9] (.l 10 [] .nil .no)) .no) .no)) ?_ | refine aW (.qs [0, 1, 2, 3, 4, 5, 6, 7, 8, 9, 10, 11] (.l 12 [1] (.l 13 [] (.qs [14] (.l 15 [] .nil .no)) .no) .no)) ?_ | refine aW (.qs [0, 1, 2] (.l 3 [1] (.l 4 [1] (.l 5 [] (.qs [6] (.l 7 [] .nil .no)) .no) .no) .no)) ?_ | refine aW (.qs [0, 1, 3] (.l 2 [3] (.l 4 [] (.l 5 [] (.qs [6] (.l 7 [] .nil .no)) .no) .no) (.l 4 [1] (.l 2 [] (.l 5 [] (.qs [6] (.l 7 [] .nil .no)) .no) .no) .no))) ?_ | refine aW (.qs [0, 1, 2, 3, 4, 5, 6, 7, 8, 9, 10, 11, 12, 13, 14, 15, 16, 17] (.l 18 [14] (.qs [19, 20, 21, 22] .nil) .no)) ?_ | refine And.intro ?_ ?_ | fail); all_goals try (conv => whnf)
    exact ⟨j + 1, [0, 1, 2, 3, 4, 5, 9], by omega, by omega, by rw [htk, fr2_append]; (exact aL)⟩
  have e : j = p.c.length := by omega
  subst e
  rw [List.take_length]
  (repeat' (conv => whnf); first | refine aC (fun _ => ?_) (fun _ => ?_) | refine aS ?_ | refine aG ?_ | refine aD ?_ | refine aP_Qs ?_ | refine aI ?_ | refine aJ ?_ | refine aW (.qs [0, 1, 2, 3, 4, 5, 6] (.l 7 [1] (.l 8 [] (.qs [9] (.l 10 [] .nil .no)) .no) .no)) ?_ | refine aW (.qs [0, 1, 2, 3, 4, 5, 6, 7, 8, 9, 10, 11] (.l 12 [1] (.l 13 [] (.qs [14] (.l 15 [] .nil .no)) .no) .no)) ?_ | refine aW (.qs [0, 1, 2] (.l 3 [1] (.l 4 [1] (.l 5 [] (.qs [6] (.l 7 [] .nil .no)) .no) .no) .no)) ?_ | refine aW (.qs [0, 1, 2, 3, 4, 5, 6, 7, 8, 9, 10, 11, 12, 13, 14, 15, 16, 17] (.l 18 [14] (.qs [19, 20, 21, 22] .nil) .no)) ?_ | fail); all_goals try (conv => whnf)
  refine .mk [.fz 6, .nb 4 1 4] ?_
  (repeat' (conv => whnf); first | refine aC (fun _ => ?_) (fun _ => ?_) | refine aS ?_ | refine aG ?_ | refine aD ?_ | refine aP_Qs ?_ | refine aI ?_ | refine aJ ?_ | refine aW (.qs [0, 1, 2, 3, 4, 5, 6] (.l 7 [1] (.l 8 [] (.qs [9] (.l 10 [] .nil .no)) .no) .no)) ?_ | refine aW (.qs [0, 1, 2, 3, 4, 5, 6, 7, 8, 9, 10, 11] (.l 12 [1] (.l 13 [] (.qs [14] (.l 15 [] .nil .no)) .no) .no)) ?_ | refine aW (.qs [0, 1, 2] (.l 3 [1] (.l 4 [1] (.l 5 [] (.qs [6] (.l 7 [] .nil .no)) .no) .no) .no)) ?_ | refine aW (.qs [0, 1, 2, 3, 4, 5, 6, 7, 8, 9, 10, 11, 12, 13, 14, 15, 16, 17] (.l 18 [14] (.qs [19, 20, 21, 22] .nil) .no)) ?_ | fail); all_goals try (conv => whnf)
  have hqv := qp_vp hvp hsm hn1
  have hqc : p.c.map (fun f => (f.1 * n, (1 : Int))) = (qp p n).c := rfl
  rw [hqc]
  have hq3 : (qp p n).r = p.r := rfl
  generalize hq : qp p n = q at *
  refine LoopOb.mk (Y := Int × List Rw) (st := fun y => ⟨[(15, i64 y.1), (12, i64 n), (11, .ptr 5 0), (10, .ptr 4 0), (9, .ptr 3 0), (7, .ptr 2 0), (6, .ptr 1 0), (5, .ptr 0 0), (1, .num .u8 kk)], [src (l.take 2000) k1, .box [fsl p.c, .psl 4 (rws p.r)], .box [i64 s1, fsl X1, i64 v1.1, i64 v1.2, fsl Y1, fsl Z1], .box [fsl q.c, .psl 4 (rws p.r)], .box [fsl p.c, .vec 6], .box [fsl p.c, .psl 4 (rws p.r)], .vec 4 (rws y.2)]⟩)
    (inv := fun y => y.1 = (p.r.length : Int) - 1 - y.2.length ∧ y.2.length ≤ p.r.length ∧ y.2 = p.r.reverse.take y.2.length) (fun y => p.r.length - y.2.length) ((p.r.length : Int) - 1, []) [0, 1, 2, 3, 4, 5, 7] ⟨by simp, by simp, by simp⟩ (by rw [hlr]; (exact aL)) ?_
  rintro ⟨jj, w⟩ ⟨hjj, hw, hwr⟩
  dsimp only at hjj hw hwr ⊢
  have hlw := rw_len w
  (repeat' (conv => whnf); first | refine aS ?_ | refine aG ?_ | refine aD ?_ | refine aH ?_ | refine aP_Qs ?_ | refine aI ?_ | refine aJ ?_ | refine aW (.qs [0, 1, 2, 3, 4, 5, 6] (.l 7 [1] (.l 8 [] (.qs [9] (.l 10 [] .nil .no)) .no) .no)) ?_ | refine aW (.qs [0, 1, 2, 3, 4, 5, 6, 7, 8, 9, 10, 11] (.l 12 [1] (.l 13 [] (.qs [14] (.l 15 [] .nil .no)) .no) .no)) ?_ | refine aW (.qs [0, 1, 2] (.l 3 [1] (.l 4 [1] (.l 5 [] (.qs [6] (.l 7 [] .nil .no)) .no) .no) .no)) ?_ | refine aW (.qs [0, 1, 2, 3, 4, 5, 6, 7, 8, 9, 10, 11, 12, 13, 14, 15, 16, 17] (.l 18 [14] (.qs [19, 20, 21, 22] .nil) .no)) ?_ | fail); all_goals try (conv => whnf)
  refine CondOb.mk (fun hlt2 => ?_) (fun hlt2 => ?_)
  · have hjl : p.r.length - 1 - w.length < p.r.length := by omega
    have hgj := rw_get (l := p.r) hjl
    have htk : p.r.reverse.take (w.length + 1) = w ++ [p.r.getD (p.r.length - 1 - w.length) rw0] := by
      rw [List.take_succ_eq_append_getElem (by rw [List.length_reverse]; omega), ← hwr, List.getElem_reverse, List.getD_eq_getElem?_getD, List.getElem?_eq_getElem hjl]; rfl
    generalize p.r.getD (p.r.length - 1 - w.length) rw0 = x at *
    obtain ⟨xc, xs, xb, xd⟩ := x
    (repeat' (conv => whnf); first | refine ⟨p.r.length - 1 - w.length, _, by omega, hgj, ?_⟩ | refine aC (fun _ => ?_) (fun _ => ?_) | refine aS ?_ | refine aG ?_ | refine aD ?_ | refine aH ?_ | refine aP_Qs ?_ | refine aI ?_ | refine aJ ?_ | refine aW (.qs [0, 1, 2] (.l 3 [2, 1, 0] (.l 4 [2, 1, 0] (.l 5 [2, 1, 0] (.l 6 [2, 1] (.l 7 [2] (.l 8 [] .nil .no) .no) .no) .no) (.l 5 [2, 1, 0] (.l 4 [2, 1, 0] (.l 6 [2, 1] (.l 7 [2] (.l 8 [] .nil .no) .no) .no) .no) .no)) (.l 4 [2, 1, 0] (.l 3 [2, 1, 0] (.l 5 [2, 1, 0] (.l 6 [2, 1] (.l 7 [2] (.l 8 [] .nil .no) .no) .no) .no) (.l 5 [2, 1, 0] (.l 3 [2, 1, 0] (.l 6 [2, 1] (.l 7 [2] (.l 8 [] .nil .no) .no) .no) .no) .no)) (.l 5 [2, 1, 0] (.l 3 [2, 1, 0] (.l 4 [2, 1, 0] (.l 6 [2, 1] (.l 7 [2] (.l 8 [] .nil .no) .no) .no) .no) (.l 4 [2, 1, 0] (.l 3 [2, 1, 0] (.l 6 [2, 1] (.l 7 [2] (.l 8 [] .nil .no) .no) .no) .no) .no)) .no)))) ?_ | refine aW (.qs [0, 1, 2, 3, 4, 5, 6] (.l 7 [1] (.l 8 [] (.qs [9] (.l 10 [] .nil .no)) .no) .no)) ?_ | refine aW (.qs [0, 1, 2, 3, 4, 5, 6, 7, 8, 9, 10, 11] (.l 12 [1] (.l 13 [] (.qs [14] (.l 15 [] .nil .no)) .no) .no)) ?_ | refine aW (.qs [0, 1, 2] (.l 3 [1] (.l 4 [1] (.l 5 [] (.qs [6] (.l 7 [] .nil .no)) .no) .no) .no)) ?_ | refine aW (.qs [0, 1, 3] (.l 2 [3] (.l 4 [] (.l 5 [] (.qs [6] (.l 7 [] .nil .no)) .no) .no) (.l 4 [1] (.l 2 [] (.l 5 [] (.qs [6] (.l 7 [] .nil .no)) .no) .no) .no))) ?_ | refine aW (.qs [0, 1, 2, 3, 4, 5, 6, 7, 8, 9, 10, 11, 12, 13, 14, 15, 16, 17] (.l 18 [14] (.qs [19, 20, 21, 22] .nil) .no)) ?_ | refine And.intro ?_ ?_ | fail); all_goals try (conv => whnf)
    exact ⟨(jj - 1, w ++ [(xc, xs, xb, xd)]), [0, 1, 2, 3, 4, 5, 8], ⟨by simp only [List.length_append, List.length_singleton]; omega, by simp only [List.length_append, List.length_singleton]; omega, by simp only [List.length_append, List.length_singleton]; exact htk.symm⟩, by simp only [List.length_append, List.length_singleton]; omega, by dsimp only; rw [rws_app]; (exact aL)⟩
  have hwl : w.length = p.r.length := by omega
  rw [hwl, List.take_of_length_le (by simp)] at hwr
  (repeat' (conv => whnf); first | refine aC (fun _ => ?_) (fun _ => ?_) | refine aS ?_ | refine aG ?_ | refine aH ?_ | refine aP_Qs ?_ | refine aI ?_ | refine aJ ?_ | refine aW (.qs [0, 1, 2, 3, 4, 5, 6] (.l 7 [1] (.l 8 [] (.qs [9] (.l 10 [] .nil .no)) .no) .no)) ?_ | refine aW (.qs [0, 1, 2, 3, 4, 5, 6, 7, 8, 9, 10, 11] (.l 12 [1] (.l 13 [] (.qs [14] (.l 15 [] .nil .no)) .no) .no)) ?_ | refine aW (.qs [0, 1, 2] (.l 3 [1] (.l 4 [1] (.l 5 [] (.qs [6] (.l 7 [] .nil .no)) .no) .no) .no)) ?_ | refine aW (.qs [0, 1, 2, 3, 4, 5, 6, 7, 8, 9, 10, 11, 12, 13, 14, 15, 16, 17] (.l 18 [14] (.qs [19, 20, 21, 22] .nil) .no)) ?_ | fail); all_goals try (conv => whnf)
  refine CutOb.cut (Y := List Rw) (st := fun R => ⟨[(12, i64 n), (11, .ptr 5 0), (10, .ptr 4 0), (9, .ptr 3 0), (7, .ptr 2 0), (6, .ptr 1 0), (5, .ptr 0 0), (1, .num .u8 kk)], [src (l.take 2000) k1, .box [fsl p.c, .psl 4 (rws p.r)], .box [i64 s1, fsl X1, i64 v1.1, i64 v1.2, fsl Y1, fsl Z1], .box [fsl q.c, .psl 4 (rws p.r)], .box [fsl p.c, .vec 6], .box [fsl p.c, .psl 4 (rws p.r)], .vec 4 (rws R)]⟩)
    (inv := fun R => R.length ≤ 5 ∧ ∀ x, x ∈ R ↔ x ∈ p.r) ?_ ?_
  · (repeat' (conv => whnf); first | refine aS ?_ | refine aG ?_ | refine aD ?_ | refine aH ?_ | refine aP_Qs ?_ | refine aI ?_ | refine aJ ?_ | refine aW (.qs [0, 1, 2, 3, 4, 5, 6] (.l 7 [1] (.l 8 [] (.qs [9] (.l 10 [] .nil .no)) .no) .no)) ?_ | refine aW (.qs [0, 1, 2, 3, 4, 5, 6, 7, 8, 9, 10, 11] (.l 12 [1] (.l 13 [] (.qs [14] (.l 15 [] .nil .no)) .no) .no)) ?_ | refine aW (.qs [0, 1, 2] (.l 3 [1] (.l 4 [1] (.l 5 [] (.qs [6] (.l 7 [] .nil .no)) .no) .no) .no)) ?_ | refine aW (.qs [0, 1, 2, 3, 4, 5, 6, 7, 8, 9, 10, 11, 12, 13, 14, 15, 16, 17] (.l 18 [14] (.qs [19, 20, 21, 22] .nil) .no)) ?_ | fail); all_goals try (conv => whnf)
    refine CondOb.mk (fun h0 => ?_) (fun h0 => ?_)
    · have hjl : (kk.tmod p.r.length).toNat < p.r.length ∧ 0 ≤ kk.tmod p.r.length := by
        rw [Int.tmod_eq_emod_of_nonneg hk0]
        have := Int.emod_nonneg kk (show (p.r.length : Int) ≠ 0 by omega)
        have := Int.emod_lt_of_pos kk (show (0 : Int) < p.r.length by omega)
        omega
      have hgj := rw_get (l := p.r) hjl.1
      have hmem := gd_mem (d := rw0) hjl.1
      generalize p.r.getD (kk.tmod p.r.length).toNat rw0 = x at *
      obtain ⟨xc, xs, xb, xd⟩ := x
      (repeat' (conv => whnf); first | refine ⟨(kk.tmod (rws p.r).length).toNat, _, by rw [hlr]; omega, by rw [hlr]; exact hgj, ?_⟩ | refine And.intro (fun h => absurd h (by omega)) ?_ | refine aC (fun _ => ?_) (fun _ => ?_) | refine aS ?_ | refine aG ?_ | refine aD ?_ | refine aH ?_ | refine aP_Qs ?_ | refine aI ?_ | refine aJ ?_ | refine aW (.qs [0, 1, 2] (.l 3 [2, 1, 0] (.l 4 [2, 1, 0] (.l 5 [2, 1, 0] (.l 6 [2, 1] (.l 7 [2] (.l 8 [] .nil .no) .no) .no) .no) (.l 5 [2, 1, 0] (.l 4 [2, 1, 0] (.l 6 [2, 1] (.l 7 [2] (.l 8 [] .nil .no) .no) .no) .no) .no)) (.l 4 [2, 1, 0] (.l 3 [2, 1, 0] (.l 5 [2, 1, 0] (.l 6 [2, 1] (.l 7 [2] (.l 8 [] .nil .no) .no) .no) .no) (.l 5 [2, 1, 0] (.l 3 [2, 1, 0] (.l 6 [2, 1] (.l 7 [2] (.l 8 [] .nil .no) .no) .no) .no) .no)) (.l 5 [2, 1, 0] (.l 3 [2, 1, 0] (.l 4 [2, 1, 0] (.l 6 [2, 1] (.l 7 [2] (.l 8 [] .nil .no) .no) .no) .no) (.l 4 [2, 1, 0] (.l 3 [2, 1, 0] (.l 6 [2, 1] (.l 7 [2] (.l 8 [] .nil .no) .no) .no) .no) .no)) .no)))) ?_ | refine aW (.qs [0, 1, 2, 3, 4, 5, 6] (.l 7 [1] (.l 8 [] (.qs [9] (.l 10 [] .nil .no)) .no) .no)) ?_ | refine aW (.qs [0, 1, 2, 3, 4, 5, 6, 7, 8, 9, 10, 11] (.l 12 [1] (.l 13 [] (.qs [14] (.l 15 [] .nil .no)) .no) .no)) ?_ | refine aW (.qs [0, 1, 2] (.l 3 [1] (.l 4 [1] (.l 5 [] (.qs [6] (.l 7 [] .nil .no)) .no) .no) .no)) ?_ | refine aW (.qs [0, 1, 3] (.l 2 [3] (.l 4 [] (.l 5 [] (.qs [6] (.l 7 [] .nil .no)) .no) .no) (.l 4 [1] (.l 2 [] (.l 5 [] (.qs [6] (.l 7 [] .nil .no)) .no) .no) .no))) ?_ | refine aW (.qs [0, 1, 2, 3, 4, 5, 6, 7, 8, 9, 10, 11, 12, 13, 14, 15, 16, 17] (.l 18 [14] (.qs [19, 20, 21, 22] .nil) .no)) ?_ | refine And.intro ?_ ?_ | fail); all_goals try (conv => whnf)
      exact ⟨w ++ [(xc, xs, xb, xd)], [0, 1, 2, 3, 4, 5, 8], ⟨by simp only [List.length_append, List.length_singleton]; omega, fun x => by rw [hwr]; simp only [List.mem_append, List.mem_reverse, List.mem_singleton]; exact ⟨fun h => h.elim id (fun h => h ▸ hmem), .inl⟩⟩, by rw [rws_app]; (exact aL)⟩
    (repeat' (conv => whnf); first | refine aC (fun _ => ?_) (fun _ => ?_) | refine aS ?_ | refine aG ?_ | refine aD ?_ | refine aH ?_ | refine aP_Qs ?_ | refine aI ?_ | refine aJ ?_ | refine aW (.qs [0, 1, 2, 3, 4, 5, 6] (.l 7 [1] (.l 8 [] (.qs [9] (.l 10 [] .nil .no)) .no) .no)) ?_ | refine aW (.qs [0, 1, 2, 3, 4, 5, 6, 7, 8, 9, 10, 11] (.l 12 [1] (.l 13 [] (.qs [14] (.l 15 [] .nil .no)) .no) .no)) ?_ | refine aW (.qs [0, 1, 2] (.l 3 [1] (.l 4 [1] (.l 5 [] (.qs [6] (.l 7 [] .nil .no)) .no) .no) .no)) ?_ | refine aW (.qs [0, 1, 2, 3, 4, 5, 6, 7, 8, 9, 10, 11, 12, 13, 14, 15, 16, 17] (.l 18 [14] (.qs [19, 20, 21, 22] .nil) .no)) ?_ | fail); all_goals try (conv => whnf)
    exact ⟨w, [0, 1, 2, 3, 4, 5, 6], ⟨by omega, fun x => by rw [hwr]; simp⟩, by (exact aL)⟩
  rintro R ⟨hR5, hRm⟩
  clear hlt2 hwl hwr hlw hjj hw w jj
  have hRl := rw_len R
  (repeat' (conv => whnf); first | refine aC (fun _ => ?_) (fun _ => ?_) | refine aS ?_ | refine aG ?_ | refine aD ?_ | refine aP_Qs ?_ | refine aI ?_ | refine aJ ?_ | refine aW (.qs [0, 1, 2, 3, 4, 5, 6] (.l 7 [1] (.l 8 [] (.qs [9] (.l 10 [] .nil .no)) .no) .no)) ?_ | refine aW (.qs [0, 1, 2, 3, 4, 5, 6, 7, 8, 9, 10, 11] (.l 12 [1] (.l 13 [] (.qs [14] (.l 15 [] .nil .no)) .no) .no)) ?_ | refine aW (.qs [0, 1, 2] (.l 3 [1] (.l 4 [1] (.l 5 [] (.qs [6] (.l 7 [] .nil .no)) .no) .no) .no)) ?_ | refine aW (.qs [0, 1, 2, 3, 4, 5, 6, 7, 8, 9, 10, 11, 12, 13, 14, 15, 16, 17] (.l 18 [14] (.qs [19, 20, 21, 22] .nil) .no)) ?_ | fail); all_goals try (conv => whnf)
  refine .mk [.fz 6] ?_
  (repeat' (conv => whnf); first | refine aC (fun _ => ?_) (fun _ => ?_) | refine aS ?_ | refine aG ?_ | refine aD ?_ | refine aP_Qs ?_ | refine aI ?_ | refine aJ ?_ | refine aW (.qs [0, 1, 2, 3, 4, 5, 6] (.l 7 [1] (.l 8 [] (.qs [9] (.l 10 [] .nil .no)) .no) .no)) ?_ | refine aW (.qs [0, 1, 2, 3, 4, 5, 6, 7, 8, 9, 10, 11] (.l 12 [1] (.l 13 [] (.qs [14] (.l 15 [] .nil .no)) .no) .no)) ?_ | refine aW (.qs [0, 1, 2] (.l 3 [1] (.l 4 [1] (.l 5 [] (.qs [6] (.l 7 [] .nil .no)) .no) .no) .no)) ?_ | refine aW (.qs [0, 1, 2, 3, 4, 5, 6, 7, 8, 9, 10, 11, 12, 13, 14, 15, 16, 17] (.l 18 [14] (.qs [19, 20, 21, 22] .nil) .no)) ?_ | fail); all_goals try (conv => whnf)
  refine CallOb.mk [0] (Integer_ok _ k1 hL hk1' 20 (by omega) (by omega)) rfl (ImpL.refl _) rfl rfl ?_
  rintro _ _ ⟨⟨b, k2⟩, ⟨hb1, hb2, hk2⟩, rfl, rfl⟩
  dsimp only at hb1 hb2 hk2 ⊢
  (repeat' (conv => whnf); first | refine aC (fun _ => ?_) (fun _ => ?_) | refine aS ?_ | refine aG ?_ | refine aD ?_ | refine aP_Qs ?_ | refine aI ?_ | refine aJ ?_ | refine aW (.qs [0, 1, 2, 3, 4, 5, 6] (.l 7 [1] (.l 8 [] (.qs [9] (.l 10 [] .nil .no)) .no) .no)) ?_ | refine aW (.qs [0, 1, 2, 3, 4, 5, 6, 7, 8, 9, 10, 11] (.l 12 [1] (.l 13 [] (.qs [14] (.l 15 [] .nil .no)) .no) .no)) ?_ | refine aW (.qs [0, 1, 2] (.l 3 [1] (.l 4 [1] (.l 5 [] (.qs [6] (.l 7 [] .nil .no)) .no) .no) .no)) ?_ | refine aW (.qs [0, 1, 2, 3, 4, 5, 6, 7, 8, 9, 10, 11, 12, 13, 14, 15, 16, 17] (.l 18 [14] (.qs [19, 20, 21, 22] .nil) .no)) ?_ | fail); all_goals try (conv => whnf)
  refine .mk [.nb 7 0 2] ?_
  clear hk1'
  refine LoopOb.mk (Y := List F × Nat) (st := fun y => ⟨[(108, i64 y.1.length), (107, i64 p.c.length), (16, .ptr 6 0), (12, i64 n), (11, .ptr 5 0), (10, .ptr 4 0), (9, .ptr 3 0), (7, .ptr 2 0), (6, .ptr 1 0), (5, .ptr 0 0), (1, .num .u8 kk)], [src (l.take 2000) y.2, .box [fsl p.c, .psl 4 (rws p.r)], .box [i64 s1, fsl X1, i64 v1.1, i64 v1.2, fsl Y1, fsl Z1], .box [fsl q.c, .psl 4 (rws p.r)], .box [fsl p.c, .psl 4 (rws R)], .box [fsl p.c, .psl 4 (rws p.r)], .box [.vec 7, i64 1, i64 b, i64 1], .vec 2 (fr2 y.1)]⟩)
    (inv := fun y => y.1.length ≤ p.c.length ∧ (∀ f ∈ y.1, VF f) ∧ y.2 ≤ 2000) (fun y => p.c.length - y.1.length) ([], k2) [0, 1, 2, 3, 4, 5, 7, 8] ⟨by simp, by simp, hk2⟩ (by rw [hlc]; (exact aL)) ?_
  rintro ⟨m, k⟩ ⟨hm, hmv, hk⟩
  dsimp only at hm hmv hk ⊢
  have hlm := fr_len m
  (repeat' (conv => whnf); first | refine aS ?_ | refine aG ?_ | refine aD ?_ | refine aH ?_ | refine aP_Qs ?_ | refine aI ?_ | refine aJ ?_ | refine aW (.qs [0, 1, 2, 3, 4, 5, 6] (.l 7 [1] (.l 8 [] (.qs [9] (.l 10 [] .nil .no)) .no) .no)) ?_ | refine aW (.qs [0, 1, 2, 3, 4, 5, 6, 7, 8, 9, 10, 11] (.l 12 [1] (.l 13 [] (.qs [14] (.l 15 [] .nil .no)) .no) .no)) ?_ | refine aW (.qs [0, 1, 2] (.l 3 [1] (.l 4 [1] (.l 5 [] (.qs [6] (.l 7 [] .nil .no)) .no) .no) .no)) ?_ | refine aW (.qs [0, 1, 2, 3, 4, 5, 6, 7, 8, 9, 10, 11, 12, 13, 14, 15, 16, 17] (.l 18 [14] (.qs [19, 20, 21, 22] .nil) .no)) ?_ | fail); all_goals try (conv => whnf)
  refine CondOb.mk (fun hlt => ?_) (fun hlt => ?_)
  · (repeat' (conv => whnf); first | refine aC (fun _ => ?_) (fun _ => ?_) | refine aS ?_ | refine aG ?_ | refine aD ?_ | refine aH ?_ | refine aP_Qs ?_ | refine aI ?_ | refine aJ ?_ | refine aW (.qs [0, 1, 2, 3, 4, 5, 6] (.l 7 [1] (.l 8 [] (.qs [9] (.l 10 [] .nil .no)) .no) .no)) ?_ | refine aW (.qs [0, 1, 2, 3, 4, 5, 6, 7, 8, 9, 10, 11] (.l 12 [1] (.l 13 [] (.qs [14] (.l 15 [] .nil .no)) .no) .no)) ?_ | refine aW (.qs [0, 1, 2] (.l 3 [1] (.l 4 [1] (.l 5 [] (.qs [6] (.l 7 [] .nil .no)) .no) .no) .no)) ?_ | refine aW (.qs [0, 1, 2, 3, 4, 5, 6, 7, 8, 9, 10, 11, 12, 13, 14, 15, 16, 17] (.l 18 [14] (.qs [19, 20, 21, 22] .nil) .no)) ?_ | (refine CallOb.mk [0] (Integer_ok _ k hL hk 3 (by omega) (by omega)) rfl (ImpL.refl _) rfl rfl ?_; rintro _ _ ⟨⟨c, k3⟩, ⟨hc1, hc2, hk3⟩, rfl, rfl⟩; dsimp only at hc1 hc2 hk3 ⊢) | fail); all_goals try (conv => whnf)
    exact ⟨(m ++ [(c, 1)], k3), [0, 1, 2, 3, 4, 5, 6, 9], ⟨by simp only [List.length_append, List.length_singleton]; omega, vf_app hmv (vf_int (by omega) (by omega)), hk3⟩, by simp only [List.length_append, List.length_singleton]; omega, by dsimp only; rw [fr2_append, List.length_append, List.length_singleton]; (exact aL)⟩
  have hml : m.length = p.c.length := by omega
  (repeat' (conv => whnf); first | refine aC (fun _ => ?_) (fun _ => ?_) | refine aS ?_ | refine aG ?_ | refine aD ?_ | refine aH ?_ | refine aP_Qs ?_ | refine aI ?_ | refine aJ ?_ | fail); all_goals try (conv => whnf)
  refine DrawOb.cut (Y := Unit) [.fz 7] (.qs [0, 1, 3] (.l 2 [3] (.l 4 [] (.l 5 [] (.qs [6] (.l 7 [] .nil .no)) .no) .no) (.l 4 [1] (.l 2 [] (.l 5 [] (.qs [6] (.l 7 [] .nil .no)) .no) .no) .no))) (fun _ => ⟨[(12, i64 n), (11, .ptr 5 0), (10, .ptr 4 0), (9, .ptr 3 0), (7, .ptr 2 0), (6, .ptr 1 0), (5, .ptr 0 0), (1, .num .u8 kk)], [src (l.take 2000) k, .box [fsl p.c, .psl 4 (rws p.r)], .box [i64 s1, fsl X1, i64 v1.1, i64 v1.2, fsl Y1, fsl Z1], .box [fsl q.c, .psl 4 (rws p.r)], .box [fsl p.c, .psl 4 (rws R)], .box [fsl p.c, .psl 4 (rws (p.r ++ [(m, 1, (b, 1))]))]]⟩) (fun _ => True) (by decide +kernel) ?_ ?_
  · (repeat' (conv => whnf); first | refine aC (fun _ => ?_) (fun _ => ?_) | refine aS ?_ | refine aG ?_ | refine aD ?_ | refine aP_Qs ?_ | refine aI ?_ | refine aJ ?_ | refine And.intro ?_ ?_ | fail); all_goals try (conv => whnf)
    all_goals
      refine .mk [.fz 10] ?_
      (conv => whnf)
      exact ⟨(), [0, 1, 2, 3, 4, 5], trivial, by rw [rws_app]; (exact aL)⟩
  rintro - -
  have huv : VP (up' p (m, 1, (b, 1))) := up_vp hvp hr4 ⟨hml, by dsimp only; omega, by dsimp only; omega, hmv, vf_int (by omega) (by omega)⟩
  have hrv : VP ⟨p.c, R⟩ := rr_vp hvp (by omega) hRm
  have hqe : fsl q.c = fsl q.c := rfl
  have cB := Solve_ok' q (VP.pl hqv)
  rw [show prv q = .agg [fsl q.c, .psl 4 (rws p.r)] by rw [← hq3]] at cB
  have cC := Solve_ok' ⟨p.c, R⟩ (VP.pl hrv)
  have cD := Solve_ok' (up' p (m, 1, (b, 1))) (VP.pl huv)
  have LB : ∀ {s' v'}, VF v' → RSol q s' (val v') → s' = s1 ∧ v' = ((fmul v1 (n, 1)).1, (fmul v1 (n, 1)).2.1) := fun h2 k => by subst hq; exact qp_law hvp hsm hn1 hA1 h2 hA2 k
  have LC : ∀ {s' v'}, VF v' → RSol ⟨p.c, R⟩ s' (val v') → s' = s1 ∧ v' = v1 := fun h2 k => rr_law hvp hrv rfl hRm hA1 h2 hA2 k
  have LD : ∀ {s' v'}, VF v' → RSol (up' p (m, 1, (b, 1))) s' (val v') → (s1 = 3 → s' = 3) ∧ (s1 = 1 → s' ≠ 2 ∧ (s' = 1 → ¬fcmp v' v1 < 0)) := fun h2 k => up_law hvp huv hA1 h2 hA2 k
  have hr1 := hA2.rng
  have cW := whole2_ok v1 n
  generalize fmul v1 (n, 1) = W at *
  clear hA
  (repeat' (conv => whnf); first | (refine aC (fun _ => ?_) (fun _ => ?_) <;> try (exfalso; omega)) | refine aS ?_ | refine aG ?_ | refine aD ?_ | refine aH ?_ | refine aP_Qs ?_ | refine aI ?_ | refine aJ ?_ | refine aW (.qs [0, 1, 2, 3, 4, 5, 6] (.l 7 [1] (.l 8 [] (.qs [9] (.l 10 [] .nil .no)) .no) .no)) ?_ | refine aW (.qs [0, 1, 2, 3, 4, 5, 6, 7, 8, 9, 10, 11] (.l 12 [1] (.l 13 [] (.qs [14] (.l 15 [] .nil .no)) .no) .no)) ?_ | refine aW (.qs [0, 1, 2] (.l 3 [1] (.l 4 [1] (.l 5 [] (.qs [6] (.l 7 [] .nil .no)) .no) .no) .no)) ?_ | refine aW (.qs [0, 1, 2, 3, 4, 5, 6, 7, 8, 9, 10, 11, 12, 13, 14, 15, 16, 17] (.l 18 [14] (.qs [19, 20, 21, 22] .nil) .no)) ?_ | fail); all_goals try (conv => whnf)
  refine CallOb.mk [] cB rfl (ImpL.refl _) rfl rfl ?_
  rintro _ _ ⟨⟨⟨s2, X2, v2, Y2, Z2⟩, e2⟩, hB, rfl, rfl⟩
  have hB := hB.yes hqv
  dsimp only at hB ⊢
  (repeat' (conv => whnf); first | (refine aC (fun _ => ?_) (fun _ => ?_) <;> try (exfalso; omega)) | refine aS ?_ | refine aG ?_ | refine aD ?_ | refine aH ?_ | refine aP_Qs ?_ | refine aI ?_ | refine aJ ?_ | refine aW (.qs [0, 1, 2, 3, 4, 5, 6] (.l 7 [1] (.l 8 [] (.qs [9] (.l 10 [] .nil .no)) .no) .no)) ?_ | refine aW (.qs [0, 1, 2, 3, 4, 5, 6, 7, 8, 9, 10, 11] (.l 12 [1] (.l 13 [] (.qs [14] (.l 15 [] .nil .no)) .no) .no)) ?_ | refine aW (.qs [0, 1, 2] (.l 3 [1] (.l 4 [1] (.l 5 [] (.qs [6] (.l 7 [] .nil .no)) .no) .no) .no)) ?_ | refine aW (.qs [0, 1, 2, 3, 4, 5, 6, 7, 8, 9, 10, 11, 12, 13, 14, 15, 16, 17] (.l 18 [14] (.qs [19, 20, 21, 22] .nil) .no)) ?_ | fail); all_goals try (conv => whnf)
  refine CallOb.mk [] cC rfl (ImpL.refl _) rfl rfl ?_
  rintro _ _ ⟨⟨⟨s3, X3, v3, Y3, Z3⟩, e3⟩, hC, rfl, rfl⟩
  have hC := hC.yes hrv
  dsimp only at hC ⊢
  (repeat' (conv => whnf); first | (refine aC (fun _ => ?_) (fun _ => ?_) <;> try (exfalso; omega)) | refine aS ?_ | refine aG ?_ | refine aD ?_ | refine aH ?_ | refine aP_Qs ?_ | refine aI ?_ | refine aJ ?_ | refine aW (.qs [0, 1, 2, 3, 4, 5, 6] (.l 7 [1] (.l 8 [] (.qs [9] (.l 10 [] .nil .no)) .no) .no)) ?_ | refine aW (.qs [0, 1, 2, 3, 4, 5, 6, 7, 8, 9, 10, 11] (.l 12 [1] (.l 13 [] (.qs [14] (.l 15 [] .nil .no)) .no) .no)) ?_ | refine aW (.qs [0, 1, 2] (.l 3 [1] (.l 4 [1] (.l 5 [] (.qs [6] (.l 7 [] .nil .no)) .no) .no) .no)) ?_ | refine aW (.qs [0, 1, 2, 3, 4, 5, 6, 7, 8, 9, 10, 11, 12, 13, 14, 15, 16, 17] (.l 18 [14] (.qs [19, 20, 21, 22] .nil) .no)) ?_ | fail); all_goals try (conv => whnf)
  refine CallOb.mk [] cD rfl (ImpL.refl _) rfl rfl ?_
  rintro _ _ ⟨⟨⟨s4, X4, v4, Y4, Z4⟩, e4⟩, hD, rfl, rfl⟩
  have hD := hD.yes huv
  dsimp only at hD ⊢
  have hB : e2 = 0 → s2 = s1 ∧ v2 = (W.1, W.2.1) := fun e => by
    rcases hB with ⟨_, a, b⟩ | ⟨e', _⟩
    · exact LB a b
    · omega
  have hC : e3 = 0 → s3 = s1 ∧ v3 = v1 := fun e => by
    rcases hC with ⟨_, a, b⟩ | ⟨e', _⟩
    · exact LC a b
    · omega
  have hD : e4 = 0 → (s1 = 3 → s4 = 3) ∧ (s1 = 1 → s4 ≠ 2 ∧ (s4 = 1 → ¬fcmp v4 v1 < 0)) := fun e => by
    rcases hD with ⟨_, a, b⟩ | ⟨e', _⟩
    · exact LD a b
    · omega
  have cF := rCompare_ok v4.1 v4.2 v1.1 v1.2
  rw [show (v4.1, v4.2) = v4 from rfl, show (v1.1, v1.2) = v1 from rfl] at cF
  generalize fcmp v4 v1 = z at *
  clear LB LC LD cB cC cD cA huv hrv hqv hqe hq3 hq hA1 hA2 hsm hvp
  (repeat' (conv => whnf); first | refine aC (fun _ => ?_) (fun _ => ?_) | refine aS ?_ | refine aG ?_ | refine aH ?_ | refine aP_Qs ?_ | refine aI ?_ | refine aJ ?_ | refine aW (.qs [0, 1, 2, 3, 4, 5, 6] (.l 7 [1] (.l 8 [] (.qs [9] (.l 10 [] .nil .no)) .no) .no)) ?_ | refine aW (.qs [0, 1, 2, 3, 4, 5, 6, 7, 8, 9, 10, 11] (.l 12 [1] (.l 13 [] (.qs [14] (.l 15 [] .nil .no)) .no) .no)) ?_ | refine aW (.qs [0, 1, 2] (.l 3 [1] (.l 4 [1] (.l 5 [] (.qs [6] (.l 7 [] .nil .no)) .no) .no) .no)) ?_ | refine aW (.qs [0, 1, 2, 3, 4, 5, 6, 7, 8, 9, 10, 11, 12, 13, 14, 15, 16, 17] (.l 18 [14] (.qs [19, 20, 21, 22] .nil) .no)) ?_ | fail); all_goals try (conv => whnf)
  refine CutOb.cut (Y := Unit) (st := fun _ => ⟨[(22, i64 e4), (21, .ptr 3 0), (20, i64 e3), (19, .ptr 2 0), (18, i64 e2), (17, .ptr 1 0), (12, i64 n), (7, .ptr 0 0)], [.box [i64 s1, fsl X1, i64 v1.1, i64 v1.2, fsl Y1, fsl Z1], .box [i64 s2, fsl X2, i64 v2.1, i64 v2.2, fsl Y2, fsl Z2], .box [i64 s3, fsl X3, i64 v3.1, i64 v3.2, fsl Y3, fsl Z3], .box [i64 s4, fsl X4, i64 v4.1, i64 v4.2, fsl Y4, fsl Z4]]⟩) (inv := fun _ => True) ?_ ?_
  · clear hC hD cF
    (repeat' (conv => whnf); first | (refine aC (fun _ => ?_) (fun _ => ?_) <;> try (exfalso; omega)) | refine aS ?_ | refine aG ?_ | refine aD ?_ | refine aH ?_ | refine aP_Qs ?_ | refine aI ?_ | refine aJ ?_ | refine aW (.qs [0, 1, 2] (.l 3 [2, 1, 0] (.l 4 [2, 1, 0] (.l 5 [2, 1, 0] (.l 6 [2, 1] (.l 7 [2] (.l 8 [] .nil .no) .no) .no) .no) (.l 5 [2, 1, 0] (.l 4 [2, 1, 0] (.l 6 [2, 1] (.l 7 [2] (.l 8 [] .nil .no) .no) .no) .no) .no)) (.l 4 [2, 1, 0] (.l 3 [2, 1, 0] (.l 5 [2, 1, 0] (.l 6 [2, 1] (.l 7 [2] (.l 8 [] .nil .no) .no) .no) .no) (.l 5 [2, 1, 0] (.l 3 [2, 1, 0] (.l 6 [2, 1] (.l 7 [2] (.l 8 [] .nil .no) .no) .no) .no) .no)) (.l 5 [2, 1, 0] (.l 3 [2, 1, 0] (.l 4 [2, 1, 0] (.l 6 [2, 1] (.l 7 [2] (.l 8 [] .nil .no) .no) .no) .no) (.l 4 [2, 1, 0] (.l 3 [2, 1, 0] (.l 6 [2, 1] (.l 7 [2] (.l 8 [] .nil .no) .no) .no) .no) .no)) .no)))) ?_ | refine aW (.qs [0, 1, 2, 3, 4, 5, 6] (.l 7 [1] (.l 8 [] (.qs [9] (.l 10 [] .nil .no)) .no) .no)) ?_ | refine aW (.qs [0, 1, 2, 3, 4, 5, 6, 7, 8, 9, 10, 11] (.l 12 [1] (.l 13 [] (.qs [14] (.l 15 [] .nil .no)) .no) .no)) ?_ | refine aW (.qs [0, 1, 2] (.l 3 [1] (.l 4 [1] (.l 5 [] (.qs [6] (.l 7 [] .nil .no)) .no) .no) .no)) ?_ | refine aW (.qs [0, 1, 3] (.l 2 [3] (.l 4 [] (.l 5 [] (.qs [6] (.l 7 [] .nil .no)) .no) .no) (.l 4 [1] (.l 2 [] (.l 5 [] (.qs [6] (.l 7 [] .nil .no)) .no) .no) .no))) ?_ | refine aW (.qs [0, 1, 2, 3, 4, 5, 6, 7, 8, 9, 10, 11, 12, 13, 14, 15, 16, 17] (.l 18 [14] (.qs [19, 20, 21, 22] .nil) .no)) ?_ | (refine aK [] cW ?_) | refine And.intro ?_ ?_ | fail); all_goals try (conv => whnf)
    all_goals first
      | exact ⟨(), [2, 6, 7, 8], trivial, by (exact aL)⟩
      | (exfalso; have h := hB (by omega); clear hB hRm hmv cW; simp_all [conj]; done)
      | trace_state
  rintro - -
  clear hB cW
  (repeat' (conv => whnf); first | refine aC (fun _ => ?_) (fun _ => ?_) | refine aS ?_ | refine aG ?_ | refine aH ?_ | refine aP_Qs ?_ | refine aI ?_ | refine aJ ?_ | refine aW (.qs [0, 1, 2, 3, 4, 5, 6] (.l 7 [1] (.l 8 [] (.qs [9] (.l 10 [] .nil .no)) .no) .no)) ?_ | refine aW (.qs [0, 1, 2, 3, 4, 5, 6, 7, 8, 9, 10, 11] (.l 12 [1] (.l 13 [] (.qs [14] (.l 15 [] .nil .no)) .no) .no)) ?_ | refine aW (.qs [0, 1, 2] (.l 3 [1] (.l 4 [1] (.l 5 [] (.qs [6] (.l 7 [] .nil .no)) .no) .no) .no)) ?_ | refine aW (.qs [0, 1, 2, 3, 4, 5, 6, 7, 8, 9, 10, 11, 12, 13, 14, 15, 16, 17] (.l 18 [14] (.qs [19, 20, 21, 22] .nil) .no)) ?_ | fail); all_goals try (conv => whnf)
  refine CutOb.cut (Y := Unit) (st := fun _ => ⟨[(22, i64 e4), (21, .ptr 3 0), (20, i64 e3), (19, .ptr 2 0), (18, i64 e2), (17, .ptr 1 0), (12, i64 n), (7, .ptr 0 0)], [.box [i64 s1, fsl X1, i64 v1.1, i64 v1.2, fsl Y1, fsl Z1], .box [i64 s2, fsl X2, i64 v2.1, i64 v2.2, fsl Y2, fsl Z2], .box [i64 s3, fsl X3, i64 v3.1, i64 v3.2, fsl Y3, fsl Z3], .box [i64 s4, fsl X4, i64 v4.1, i64 v4.2, fsl Y4, fsl Z4]]⟩) (inv := fun _ => True) ?_ ?_
  · clear hD cF
    (repeat' (conv => whnf); first | (refine aC (fun _ => ?_) (fun _ => ?_) <;> try (exfalso; omega)) | refine aS ?_ | refine aG ?_ | refine aD ?_ | refine aH ?_ | refine aP_Qs ?_ | refine aI ?_ | refine aJ ?_ | refine aW (.qs [0, 1, 2] (.l 3 [2, 1, 0] (.l 4 [2, 1, 0] (.l 5 [2, 1, 0] (.l 6 [2, 1] (.l 7 [2] (.l 8 [] .nil .no) .no) .no) .no) (.l 5 [2, 1, 0] (.l 4 [2, 1, 0] (.l 6 [2, 1] (.l 7 [2] (.l 8 [] .nil .no) .no) .no) .no) .no)) (.l 4 [2, 1, 0] (.l 3 [2, 1, 0] (.l 5 [2, 1, 0] (.l 6 [2, 1] (.l 7 [2] (.l 8 [] .nil .no) .no) .no) .no) (.l 5 [2, 1, 0] (.l 3 [2, 1, 0] (.l 6 [2, 1] (.l 7 [2] (.l 8 [] .nil .no) .no) .no) .no) .no)) (.l 5 [2, 1, 0] (.l 3 [2, 1, 0] (.l 4 [2, 1, 0] (.l 6 [2, 1] (.l 7 [2] (.l 8 [] .nil .no) .no) .no) .no) (.l 4 [2, 1, 0] (.l 3 [2, 1, 0] (.l 6 [2, 1] (.l 7 [2] (.l 8 [] .nil .no) .no) .no) .no) .no)) .no)))) ?_ | refine aW (.qs [0, 1, 2, 3, 4, 5, 6] (.l 7 [1] (.l 8 [] (.qs [9] (.l 10 [] .nil .no)) .no) .no)) ?_ | refine aW (.qs [0, 1, 2, 3, 4, 5, 6, 7, 8, 9, 10, 11] (.l 12 [1] (.l 13 [] (.qs [14] (.l 15 [] .nil .no)) .no) .no)) ?_ | refine aW (.qs [0, 1, 2] (.l 3 [1] (.l 4 [1] (.l 5 [] (.qs [6] (.l 7 [] .nil .no)) .no) .no) .no)) ?_ | refine aW (.qs [0, 1, 3] (.l 2 [3] (.l 4 [] (.l 5 [] (.qs [6] (.l 7 [] .nil .no)) .no) .no) (.l 4 [1] (.l 2 [] (.l 5 [] (.qs [6] (.l 7 [] .nil .no)) .no) .no) .no))) ?_ | refine aW (.qs [0, 1, 2, 3, 4, 5, 6, 7, 8, 9, 10, 11, 12, 13, 14, 15, 16, 17] (.l 18 [14] (.qs [19, 20, 21, 22] .nil) .no)) ?_ | refine And.intro ?_ ?_ | fail); all_goals try (conv => whnf)
    all_goals first
      | exact ⟨(), [0, 1, 2, 3], trivial, by (exact aL)⟩
      | (exfalso; have h := hC (by omega); clear hC hRm hmv; simp_all [conj]; done)
      | trace_state
  rintro - -
  clear hC
  (repeat' (conv => whnf); first | (refine aC (fun _ => ?_) (fun _ => ?_) <;> try (exfalso; omega)) | refine aS ?_ | refine aG ?_ | refine aD ?_ | refine aH ?_ | refine aP_Qs ?_ | refine aI ?_ | refine aJ ?_ | refine aW (.qs [0, 1, 2] (.l 3 [2, 1, 0] (.l 4 [2, 1, 0] (.l 5 [2, 1, 0] (.l 6 [2, 1] (.l 7 [2] (.l 8 [] .nil .no) .no) .no) .no) (.l 5 [2, 1, 0] (.l 4 [2, 1, 0] (.l 6 [2, 1] (.l 7 [2] (.l 8 [] .nil .no) .no) .no) .no) .no)) (.l 4 [2, 1, 0] (.l 3 [2, 1, 0] (.l 5 [2, 1, 0] (.l 6 [2, 1] (.l 7 [2] (.l 8 [] .nil .no) .no) .no) .no) (.l 5 [2, 1, 0] (.l 3 [2, 1, 0] (.l 6 [2, 1] (.l 7 [2] (.l 8 [] .nil .no) .no) .no) .no) .no)) (.l 5 [2, 1, 0] (.l 3 [2, 1, 0] (.l 4 [2, 1, 0] (.l 6 [2, 1] (.l 7 [2] (.l 8 [] .nil .no) .no) .no) .no) (.l 4 [2, 1, 0] (.l 3 [2, 1, 0] (.l 6 [2, 1] (.l 7 [2] (.l 8 [] .nil .no) .no) .no) .no) .no)) .no)))) ?_ | refine aW (.qs [0, 1, 2, 3, 4, 5, 6] (.l 7 [1] (.l 8 [] (.qs [9] (.l 10 [] .nil .no)) .no) .no)) ?_ | refine aW (.qs [0, 1, 2, 3, 4, 5, 6, 7, 8, 9, 10, 11] (.l 12 [1] (.l 13 [] (.qs [14] (.l 15 [] .nil .no)) .no) .no)) ?_ | refine aW (.qs [0, 1, 2] (.l 3 [1] (.l 4 [1] (.l 5 [] (.qs [6] (.l 7 [] .nil .no)) .no) .no) .no)) ?_ | refine aW (.qs [0, 1, 3] (.l 2 [3] (.l 4 [] (.l 5 [] (.qs [6] (.l 7 [] .nil .no)) .no) .no) (.l 4 [1] (.l 2 [] (.l 5 [] (.qs [6] (.l 7 [] .nil .no)) .no) .no) .no))) ?_ | refine aW (.qs [0, 1, 2, 3, 4, 5, 6, 7, 8, 9, 10, 11, 12, 13, 14, 15, 16, 17] (.l 18 [14] (.qs [19, 20, 21, 22] .nil) .no)) ?_ | (refine aK [] cF ?_) | (refine aK [] (lsane_ok) ?_) | refine And.intro ?_ ?_ | fail); all_goals try (conv => whnf)
  all_goals first
    | rfl
    | (exfalso; have h := hD (by omega); clear hD hRm hmv cF; simp_all [conj]; done)
    | (exfalso; have h := hD (by omega); clear hD hRm hmv cF; simp_all [conj]; omega)
    | trace_state
end Go.Proofs.Ytbdahmfjeklgbaa
