/-
  A text of the proofs of this seat: lemmas that the statements' proofs use; it states nothing of the program by itself beyond the contracts that its theorems bear. Conditions: those that stand in each theorem. Its short name: Qf.
-/
import Derived.Test.YtbdahmfjeklgbaaQe
import Derived.Test.YtbdahmfjeklgbaaQ3
set_option linter.unusedVariables false
set_option linter.unusedSimpArgs false
namespace Go.Proofs.Ytbdahmfjeklgbaa
open Go.Sx Go.Fq Go.Dt
set_option maxRecDepth 4000
set_option maxHeartbeats 2000000
--APPX fr_len, rw_len, mts_len, vcs_len
/- nothing overflows -/
def Fits (p : Pr) : Prop := ∀ ov f bs tu sl co, BuA p p.r.length ov f bs tu sl co → ¬ov ∧ SvF p f bs tu sl co
structure SlP (p : Pr) (s : Int × List F × F × List F × List F) (e : Int) : Prop where
  no : ¬VP p → e = 2 ∧ s = (0, [], (0, 0), [], [])
  yes : VP p → (e = 0 ∧ VF s.2.2.1 ∧ RSol p s.1 (val s.2.2.1)) ∨ (e = 3 ∧ ¬Fits p)
theorem aP_Qf {A B K : Prop} (k : K) (a : A := by (simp only [zA, zT, zD, zC, zN, ints_len, zR, fr_len, rw_len, mts_len, vcs_len]; omega)) (b : B := by (simp only [zA, zT, zD, zC, zN, ints_len, zR, fr_len, rw_len, mts_len, vcs_len]; omega)) : (A ∧ B) ∧ K := ⟨⟨a, b⟩, k⟩
theorem Solve_ok' (p : Pr) (hp : PL p) :
    Ctr Try.prog 10 [prv p] [] (fun r o => ∃ x : (Int × List F × F × List F × List F) × Int, SlP p x.1 x.2 ∧ o = [] ∧ r = .tup [solw x.1, i64 x.2]) := by
  refine Ctr.impO ?_
  refine fn_intro (E := env 0) tys_ok rfl rfl rfl Try.func10 (by kernel_rfl) rfl (by kernel_rfl) ?_
  have cV := Valid_ok p hp
  (repeat' (conv => whnf); first | (refine aC (fun _ => ?_) (fun _ => ?_) <;> try (exfalso; omega)) | refine aS ?_ | refine aG ?_ | refine aD ?_ | refine aH ?_ | refine aP_Qf ?_ | refine aI ?_ | refine aJ ?_ | (refine aK [] cV ?_) | fail); all_goals try (conv => whnf)
  · exact ⟨((0, [], (0, 0), [], []), 2), ⟨fun _ => ⟨rfl, rfl⟩, fun h => absurd h (by assumption)⟩, OI.refl _, Imp.tup ⟨Imp.agg ⟨Imp.refl _, Imp.nil _, Imp.refl _, Imp.refl _, Imp.nil _, Imp.nil _, trivial⟩, Imp.refl _, trivial⟩⟩
  have hv : VP p := Classical.not_not.1 (by assumption)
  have cB := build_ok p hv
  refine CallOb.mk [] cB rfl (ImpL.refl _) rfl rfl ?_
  rintro _ _ ⟨⟨ov, f, bs, tu, sl, co⟩, hB, rfl, rfl⟩
  dsimp only at hB ⊢
  have cS := solve_ok' p hv f bs tu sl co ov hB
  (repeat' (conv => whnf); first | (refine aC (fun _ => ?_) (fun _ => ?_) <;> try (exfalso; omega)) | refine aS ?_ | refine aG ?_ | refine aD ?_ | refine aH ?_ | refine aP_Qf ?_ | refine aI ?_ | refine aJ ?_ | fail); all_goals try (conv => whnf)
  refine CallOb.mk [2, 3, 4, 5, 6] cS rfl (ImpL.refl _) rfl rfl ?_
  rintro _ _ ⟨⟨q, s, bs'⟩, hR, rfl, rfl⟩
  dsimp only at hR ⊢
  (repeat' (conv => whnf); first | (refine aC (fun _ => ?_) (fun _ => ?_) <;> try (exfalso; omega)) | refine aS ?_ | refine aG ?_ | refine aD ?_ | refine aH ?_ | refine aP_Qf ?_ | refine aI ?_ | refine aJ ?_ | fail); all_goals try (conv => whnf)
  · have hq : q := by assumption
    exact ⟨((0, [], (0, 0), [], []), 3), ⟨fun h => absurd hv h, fun _ => .inr ⟨rfl, fun Fi => (Fi _ _ _ _ _ _ hB).1 (hR.fit (Fi _ _ _ _ _ _ hB).2 hq)⟩⟩, OI.refl _, Imp.tup ⟨Imp.agg ⟨Imp.refl _, Imp.nil _, Imp.refl _, Imp.refl _, Imp.nil _, Imp.nil _, trivial⟩, Imp.refl _, trivial⟩⟩
  · have hq : ¬q := by assumption
    exact ⟨(s, 0), ⟨fun h => absurd hv h, fun _ => .inl ⟨rfl, (hR.ex hq).2.1, (hR.ex hq).2.2⟩⟩, OI.refl _, Imp.refl _⟩
end Go.Proofs.Ytbdahmfjeklgbaa
