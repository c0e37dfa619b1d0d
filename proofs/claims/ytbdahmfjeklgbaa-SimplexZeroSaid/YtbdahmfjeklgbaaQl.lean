/-
  A text of the proofs of this seat: lemmas that the statements' proofs use; it states nothing of the program by itself beyond the contracts that its theorems bear. Conditions: those that stand in each theorem. Its short name: Ql.
-/
import Derived.Test.YtbdahmfjeklgbaaQk
set_option linter.unusedVariables false
set_option linter.unusedSimpArgs false
namespace Go.Proofs.Ytbdahmfjeklgbaa
open Go.Sx Go.Fq Go.Dt
set_option maxRecDepth 4000
set_option maxHeartbeats 2000000
--APPX fr_len, rw_len
theorem vf0 {v : F} (h : VF v) (k : val v = 0) : v = (0, 1) := by
  have h1 := h.num
  have h2 := h.den
  rw [k] at h1 h2
  have e1 : (0 : Rat).num = 0 := by decide +kernel
  have e2 : (0 : Rat).den = 1 := by decide +kernel
  rw [e1] at h1; rw [e2] at h2
  obtain ⟨a, b⟩ := v
  dsimp only at h1 h2
  rw [← h1, ← h2]; rfl
theorem aP_Ql {A B K : Prop} (k : K) (a : A := by (simp only [zA, zT, zD, zC, zN, ints_len, zR, fr_len, rw_len]; omega)) (b : B := by (simp only [zA, zT, zD, zC, zN, ints_len, zR, fr_len, rw_len]; omega)) : (A ∧ B) ∧ K := ⟨⟨a, b⟩, k⟩
theorem Zero_ok (l : List Int) (hl : l.length ≤ 9223372036854775807) : Ctr Try.prog 5 [.psl 1 (ints l)] [] (fun r o => r = .bl true) := by
  refine fn_intro (E := env 0) tys_ok rfl rfl rfl Try.func5 (by kernel_rfl) rfl (by kernel_rfl) ?_
  have hL : (l.take 2000).length ≤ 2000 := by rw [List.length_take]; omega
  (repeat' (conv => whnf); first | (refine aC (fun _ => ?_) (fun _ => ?_) <;> try (exfalso; omega)) | refine aS ?_ | refine aG ?_ | refine aD ?_ | refine aH ?_ | refine aP_Ql ?_ | refine aI ?_ | refine aJ ?_ | refine aW (.qs [0, 1] (.l 2 [1] (.l 3 [1] (.l 4 [] (.qs [5] (.l 6 [] .nil .no)) .no) .no) .no)) ?_ | refine aW (.qs [0, 1, 2, 3, 4, 5, 6, 7, 8, 9, 10, 11, 12, 13, 14, 15, 16, 17, 18, 19, 20, 21, 22, 23, 24, 25, 26] (.l 27 [26] (.qs [28, 29] .nil) .no)) ?_ | refine aW (.qs [0, 1, 2, 3, 4, 5, 6, 7, 8, 9, 10, 11, 12, 13] (.l 14 [13] (.qs [15, 16, 17, 18, 19] (.l 20 [] (.qs [21, 22] .nil) .no)) .no)) ?_ | (refine aK [] (lsane_ok) ?_) | (refine aK [] (New_ok l hl) ?_) | fail); all_goals try (conv => whnf)
  · rfl
  refine CallOb.mk [0] (Programme_ok' _ 0 hL (by omega)) rfl (ImpL.refl _) rfl rfl ?_
  rintro _ _ ⟨⟨p, k1⟩, ⟨hvp, hp4, hr4, hk1, hsm⟩, rfl, rfl⟩
  dsimp only at hvp hp4 hr4 hk1 hsm ⊢
  have hsm := hsm.sml hp4 hr4
  have hlc := fr_len p.c
  have hlr := rw_len p.r
  (repeat' (conv => whnf); first | refine DrawOb.cut (Y := Unit) [] (.qs [0, 1] (.l 2 [1, 0] (.l 3 [1, 0] (.l 4 [1] (.l 5 [] .nil .no) .no) .no) (.l 3 [1, 0] (.l 2 [1, 0] (.l 4 [1] (.l 5 [] .nil .no) .no) .no) .no))) (fun _ => ⟨[(5, .ptr 3 0), (4, .ptr 2 0), (3, .ptr 1 0)], [src (l.take 2000) k1, .box [fsl p.c, .psl 4 (rws p.r)], .box [fsl p.c, .psl 4 (rws p.r)], .box [fsl p.c, .psl 4 (rws p.r)]]⟩) (fun _ => True) (by decide +kernel) ?_ ?_ | refine aC (fun _ => ?_) (fun _ => ?_) | refine aS ?_ | refine aG ?_ | refine aD ?_ | refine aH ?_ | refine aP_Ql ?_ | refine aI ?_ | refine aJ ?_ | refine aW (.qs [0, 1] (.l 2 [1, 0] (.l 3 [1, 0] (.l 4 [1] (.l 5 [] .nil .no) .no) .no) (.l 3 [1, 0] (.l 2 [1, 0] (.l 4 [1] (.l 5 [] .nil .no) .no) .no) .no))) ?_ | refine aW (.qs [0, 1] (.l 2 [1] (.l 3 [1] (.l 4 [] (.qs [5] (.l 6 [] .nil .no)) .no) .no) .no)) ?_ | refine aW (.qs [0, 1, 2, 3, 4, 5, 6, 7, 8, 9, 10, 11, 12, 13, 14, 15, 16, 17, 18, 19, 20, 21, 22, 23, 24, 25, 26] (.l 27 [26] (.qs [28, 29] .nil) .no)) ?_ | refine aW (.qs [0, 1, 2, 3, 4, 5, 6, 7, 8, 9, 10, 11, 12, 13] (.l 14 [13] (.qs [15, 16, 17, 18, 19] (.l 20 [] (.qs [21, 22] .nil) .no)) .no)) ?_ | refine And.intro ?_ ?_ | fail); all_goals try (conv => whnf)
  · exact ⟨(), [0, 1, 2, 3], trivial, by (exact aL)⟩
  · exact ⟨(), [0, 1, 3, 2], trivial, by (exact aL)⟩
  rintro - -
  (repeat' (conv => whnf); first | refine aC (fun _ => ?_) (fun _ => ?_) | refine aS ?_ | refine aG ?_ | refine aD ?_ | refine aP_Ql ?_ | refine aI ?_ | refine aJ ?_ | refine aW (.qs [0, 1] (.l 2 [1] (.l 3 [1] (.l 4 [] (.qs [5] (.l 6 [] .nil .no)) .no) .no) .no)) ?_ | refine aW (.qs [0, 1, 2, 3, 4, 5, 6, 7, 8, 9, 10, 11, 12, 13, 14, 15, 16, 17, 18, 19, 20, 21, 22, 23, 24, 25, 26] (.l 27 [26] (.qs [28, 29] .nil) .no)) ?_ | refine aW (.qs [0, 1, 2, 3, 4, 5, 6, 7, 8, 9, 10, 11, 12, 13] (.l 14 [13] (.qs [15, 16, 17, 18, 19] (.l 20 [] (.qs [21, 22] .nil) .no)) .no)) ?_ | fail); all_goals try (conv => whnf)
  refine .mk [.nb 2 0 2] ?_
  refine LoopOb.mk (Y := Nat × Prop) (st := fun y => ⟨[(28, i64 y.1), (27, i64 p.c.length), (26, fsl p.c), (6, .bp y.2), (5, .ptr 3 0), (4, .ptr 2 0), (3, .ptr 1 0)], [src (l.take 2000) k1, .box [fsl p.c, .psl 4 (rws p.r)], .box [.vec 4, .psl 4 (rws p.r)], .box [fsl p.c, .psl 4 (rws p.r)], .vec 2 (fr2 (List.replicate y.1 (0, 1)))]⟩)
    (inv := fun y => y.1 ≤ p.c.length ∧ (y.2 ↔ ∃ f ∈ p.c.take y.1, f.1 < 0)) (fun y => p.c.length - y.1) (0, False) [0, 1, 2, 3, 4] ⟨by simp, by simp⟩ (by rw [hlc]; (exact aL)) ?_
  rintro ⟨j, ng⟩ ⟨hj, hng⟩
  dsimp only at hj hng ⊢
  (repeat' (conv => whnf); first | refine aS ?_ | refine aG ?_ | refine aD ?_ | refine aH ?_ | refine aP_Ql ?_ | refine aI ?_ | refine aJ ?_ | refine aW (.qs [0, 1] (.l 2 [1] (.l 3 [1] (.l 4 [] (.qs [5] (.l 6 [] .nil .no)) .no) .no) .no)) ?_ | refine aW (.qs [0, 1, 2, 3, 4, 5, 6, 7, 8, 9, 10, 11, 12, 13, 14, 15, 16, 17, 18, 19, 20, 21, 22, 23, 24, 25, 26] (.l 27 [26] (.qs [28, 29] .nil) .no)) ?_ | refine aW (.qs [0, 1, 2, 3, 4, 5, 6, 7, 8, 9, 10, 11, 12, 13] (.l 14 [13] (.qs [15, 16, 17, 18, 19] (.l 20 [] (.qs [21, 22] .nil) .no)) .no)) ?_ | fail); all_goals try (conv => whnf)
  refine CondOb.mk (fun hlt => ?_) (fun hlt => ?_)
  · have hjl : j < p.c.length := by omega
    have hgj := fr_get (l := p.c) hjl
    have hst : (ng ∨ (p.c.getD j (0, 1)).1 < 0) ↔ ∃ f ∈ p.c.take (j + 1), f.1 < 0 := by
      have e : p.c.getD j (0, 1) = p.c[j] := by rw [List.getD_eq_getElem?_getD, List.getElem?_eq_getElem hjl]; rfl
      rw [hng, e, List.take_succ_eq_append_getElem hjl]
      simp only [List.mem_append, List.mem_singleton]
      constructor
      · rintro (⟨f, h1, h2⟩ | h)
        · exact ⟨f, .inl h1, h2⟩
        · exact ⟨_, .inr rfl, h⟩
      · rintro ⟨f, h1 | rfl, h2⟩
        · exact .inl ⟨f, h1, h2⟩
        · exact .inr h2
    generalize p.c.getD j (0, 1) = x at *
    obtain ⟨x, y⟩ := x
    dsimp only at hst
    (repeat' (conv => whnf); first | refine ⟨j, _, rfl, hgj, ?_⟩ | refine aC (fun _ => ?_) (fun _ => ?_) | refine aS ?_ | refine aG ?_ | refine aD ?_ | refine aH ?_ | refine aP_Ql ?_ | refine aI ?_ | refine aJ ?_ | refine aW (.qs [0, 1] (.l 2 [1, 0] (.l 3 [1, 0] (.l 4 [1] (.l 5 [] .nil .no) .no) .no) (.l 3 [1, 0] (.l 2 [1, 0] (.l 4 [1] (.l 5 [] .nil .no) .no) .no) .no))) ?_ | refine aW (.qs [0, 1] (.l 2 [1] (.l 3 [1] (.l 4 [] (.qs [5] (.l 6 [] .nil .no)) .no) .no) .no)) ?_ | refine aW (.qs [0, 1, 2, 3, 4, 5, 6, 7, 8, 9, 10, 11, 12, 13, 14, 15, 16, 17, 18, 19, 20, 21, 22, 23, 24, 25, 26] (.l 27 [26] (.qs [28, 29] .nil) .no)) ?_ | refine aW (.qs [0, 1, 2, 3, 4, 5, 6, 7, 8, 9, 10, 11, 12, 13] (.l 14 [13] (.qs [15, 16, 17, 18, 19] (.l 20 [] (.qs [21, 22] .nil) .no)) .no)) ?_ | (refine aK [] (lwhole_ok 0) ?_) | refine And.intro ?_ ?_ | fail); all_goals try (conv => whnf)
    · have hn : ng := by assumption
      exact ⟨(j + 1, True), [0, 1, 2, 3, 7], ⟨by dsimp only; omega, ⟨fun _ => hst.1 (.inl hn), fun _ => trivial⟩⟩, by dsimp only; omega, by dsimp only; rw [List.replicate_succ', fr2_append]; (exact aL)⟩
    · have hn : ¬ng := by assumption
      exact ⟨(j + 1, x < 0), [0, 1, 2, 3, 7], ⟨by dsimp only; omega, ⟨fun h => hst.1 (.inr h), fun h => (hst.2 h).resolve_left hn⟩⟩, by dsimp only; omega, by dsimp only; rw [List.replicate_succ', fr2_append]; (exact aL)⟩
  have e : j = p.c.length := by omega
  subst e
  rw [List.take_length] at hng
  (repeat' (conv => whnf); first | refine aC (fun _ => ?_) (fun _ => ?_) | refine aS ?_ | refine aG ?_ | refine aD ?_ | refine aP_Ql ?_ | refine aI ?_ | refine aJ ?_ | refine aW (.qs [0, 1] (.l 2 [1] (.l 3 [1] (.l 4 [] (.qs [5] (.l 6 [] .nil .no)) .no) .no) .no)) ?_ | refine aW (.qs [0, 1, 2, 3, 4, 5, 6, 7, 8, 9, 10, 11, 12, 13, 14, 15, 16, 17, 18, 19, 20, 21, 22, 23, 24, 25, 26] (.l 27 [26] (.qs [28, 29] .nil) .no)) ?_ | refine aW (.qs [0, 1, 2, 3, 4, 5, 6, 7, 8, 9, 10, 11, 12, 13] (.l 14 [13] (.qs [15, 16, 17, 18, 19] (.l 20 [] (.qs [21, 22] .nil) .no)) .no)) ?_ | fail); all_goals try (conv => whnf)
  refine .mk [.fz 4] ?_
  (conv => whnf)
  have cA := Solve_ok' p (VP.pl hvp)
  have cB := Solve_ok' (zp p) (VP.pl (zp_vp hvp))
  refine CallOb.mk [] cA rfl (ImpL.refl _) rfl rfl ?_
  rintro _ _ ⟨⟨⟨s1, X1, v1, Y1, Z1⟩, e1⟩, hA, rfl, rfl⟩
  obtain ⟨rfl, hA1, hA2⟩ := hA.small hvp hsm
  dsimp only at hA1 hA2 ⊢
  (repeat' (conv => whnf); first | (refine aC (fun _ => ?_) (fun _ => ?_) <;> try (exfalso; omega)) | refine aS ?_ | refine aG ?_ | refine aD ?_ | refine aH ?_ | refine aP_Ql ?_ | refine aI ?_ | refine aJ ?_ | refine aW (.qs [0, 1] (.l 2 [1] (.l 3 [1] (.l 4 [] (.qs [5] (.l 6 [] .nil .no)) .no) .no) .no)) ?_ | refine aW (.qs [0, 1, 2, 3, 4, 5, 6, 7, 8, 9, 10, 11, 12, 13, 14, 15, 16, 17, 18, 19, 20, 21, 22, 23, 24, 25, 26] (.l 27 [26] (.qs [28, 29] .nil) .no)) ?_ | refine aW (.qs [0, 1, 2, 3, 4, 5, 6, 7, 8, 9, 10, 11, 12, 13] (.l 14 [13] (.qs [15, 16, 17, 18, 19] (.l 20 [] (.qs [21, 22] .nil) .no)) .no)) ?_ | fail); all_goals try (conv => whnf)
  refine CallOb.mk [] cB rfl (ImpL.refl _) rfl rfl ?_
  rintro _ _ ⟨⟨⟨s2, X2, v2, Y2, Z2⟩, e2⟩, hB, rfl, rfl⟩
  obtain ⟨rfl, hB1, hB2⟩ := hB.small (zp_vp hvp) (zp_sml hsm)
  dsimp only at hB1 hB2 ⊢
  (repeat' (conv => whnf); first | (refine aC (fun _ => ?_) (fun _ => ?_) <;> try (exfalso; omega)) | refine aS ?_ | refine aG ?_ | refine aD ?_ | refine aH ?_ | refine aP_Ql ?_ | refine aI ?_ | refine aJ ?_ | refine aW (.qs [0, 1] (.l 2 [1] (.l 3 [1] (.l 4 [] (.qs [5] (.l 6 [] .nil .no)) .no) .no) .no)) ?_ | refine aW (.qs [0, 1, 2, 3, 4, 5, 6, 7, 8, 9, 10, 11, 12, 13, 14, 15, 16, 17, 18, 19, 20, 21, 22, 23, 24, 25, 26] (.l 27 [26] (.qs [28, 29] .nil) .no)) ?_ | refine aW (.qs [0, 1, 2, 3, 4, 5, 6, 7, 8, 9, 10, 11, 12, 13] (.l 14 [13] (.qs [15, 16, 17, 18, 19] (.l 20 [] (.qs [21, 22] .nil) .no)) .no)) ?_ | fail); all_goals try (conv => whnf)
  have hvn : VP (np p) := ⟨hvp.1, hvp.2.1, by simp [np], hvp.2.2.2.1, by simp [np]⟩
  have hsn : Sml (np p) := ⟨hsm.n4, by simp [np], hsm.c, by simp [np]⟩
  have cC := Solve_ok' (np p) (VP.pl hvn)
  refine CallOb.mk [] cC rfl ⟨Imp.agg ⟨Imp.refl _, Imp.nil _, trivial⟩, trivial⟩ rfl rfl ?_
  rintro _ _ ⟨⟨⟨s3, X3, v3, Y3, Z3⟩, e3⟩, hC, rfl, rfl⟩
  obtain ⟨rfl, hC1, hC2⟩ := hC.small hvn hsn
  dsimp only at hC1 hC2 ⊢
  have L1 := zp_law hvp hA2 hB2
  have L2 := np_law hvp hC2
  rw [← hng] at L2
  have w2 : v2 = (0, 1) := vf0 hB1 L1.2.2
  have w3 : ¬ng → v3 = (0, 1) := fun h => vf0 hC1 (L2.2 h).2
  subst w2
  (repeat' (conv => whnf); first | refine aC (fun _ => ?_) (fun _ => ?_) | refine aS ?_ | refine aG ?_ | refine aD ?_ | refine aH ?_ | refine aP_Ql ?_ | refine aI ?_ | refine aJ ?_ | refine aW (.qs [0, 1] (.l 2 [1, 0] (.l 3 [1, 0] (.l 4 [1] (.l 5 [] .nil .no) .no) .no) (.l 3 [1, 0] (.l 2 [1, 0] (.l 4 [1] (.l 5 [] .nil .no) .no) .no) .no))) ?_ | refine aW (.qs [0, 1] (.l 2 [1] (.l 3 [1] (.l 4 [] (.qs [5] (.l 6 [] .nil .no)) .no) .no) .no)) ?_ | refine aW (.qs [0, 1, 2, 3, 4, 5, 6, 7, 8, 9, 10, 11, 12, 13, 14, 15, 16, 17, 18, 19, 20, 21, 22, 23, 24, 25, 26] (.l 27 [26] (.qs [28, 29] .nil) .no)) ?_ | refine aW (.qs [0, 1, 2, 3, 4, 5, 6, 7, 8, 9, 10, 11, 12, 13] (.l 14 [13] (.qs [15, 16, 17, 18, 19] (.l 20 [] (.qs [21, 22] .nil) .no)) .no)) ?_ | (refine aK [] (lwhole_ok 0) ?_) | (refine aK [] (lsane_ok) ?_) | refine And.intro ?_ ?_ | fail); all_goals try (conv => whnf)
  all_goals first
    | rfl
    | (exfalso; clear hA hB hC hA1 hA2 hB1 hB2 hC1 hC2 cA cB cC; by_cases hn : ng <;> simp_all [conj] <;> omega)
end Go.Proofs.Ytbdahmfjeklgbaa
