/-
  A text of the proofs of this seat: lemmas that the statements' proofs use; it states nothing of the program by itself beyond the contracts that its theorems bear. Conditions: those that stand in each theorem. Its short name: F2.
-/
import Derived.Test.YtbdahmfjeklgbaaF1
set_option linter.unusedVariables false
set_option linter.unusedSimpArgs false
namespace Go.Proofs.Ytbdahmfjeklgbaa
open Go.Sx Go.Fq
set_option maxRecDepth 4000
set_option maxHeartbeats 2000000
theorem aP_F2 {A B K : Prop} (k : K) (a : A := by (simp only [zA, zT, zD, zC, zN, ints_len, zR, fr_len, rw_len]; omega)) (b : B := by (simp only [zA, zT, zD, zC, zN, ints_len, zR, fr_len, rw_len]; omega)) : (A ∧ B) ∧ K := ⟨⟨a, b⟩, k⟩
theorem rCompare_ok (x y u v : Int) : Ctr Try.prog 13 [.agg [i64 x, i64 y], .agg [i64 u, i64 v]] [] (fun r o => o = [] ∧ r = i64 (fcmp (x, y) (u, v))) := by
  refine fn_intro (E := env 0) tys_ok rfl rfl rfl Try.func13 (by kernel_rfl) rfl (by kernel_rfl) ?_
  (repeat' (conv => whnf); first | refine aC (fun _ => ?_) (fun _ => ?_) | refine aS ?_ | refine aG ?_ | refine aD ?_ | refine aH ?_ | refine aP_F2 ?_ | refine aI ?_ | refine aJ ?_ | refine aW (.qs [0, 1, 2, 3, 4, 5, 6, 7, 8, 9, 10, 11] .nil) ?_ | (refine aK [] (rValid_ok x y) ?_) | (refine aK [] (rValid_ok u v) ?_) | fail); all_goals try (conv => whnf)
  · exact ⟨rfl, by unfold fcmp; rw [if_neg (fun h => absurd h.1 (by assumption))]; rfl⟩
  · exact ⟨rfl, by unfold fcmp; rw [if_neg (fun h => absurd h.2 (by assumption))]; rfl⟩
  have h1 := Classical.not_not.1 ‹¬¬VF (x, y)›
  have h2 := Classical.not_not.1 ‹¬¬VF (u, v)›
  have hb := vf_mul h1 h2
  have hc := h1.cmp h2
  have hd := h2.cmp h1
  dsimp only at hb hc hd
  (repeat' (conv => whnf); first | refine aC (fun _ => ?_) (fun _ => ?_) | refine aS ?_ | refine aG ?_ | refine aD ?_ | refine aH ?_ | refine aP_F2 ?_ | refine aI ?_ | refine aJ ?_ | refine aW (.qs [0, 1, 2, 3, 4, 5, 6, 7, 8, 9, 10, 11] .nil) ?_ | fail); all_goals try (conv => whnf)
  · exact ⟨rfl, by unfold fcmp; rw [if_pos ⟨h1, h2⟩, if_pos (hc.1 (by assumption))]; rfl⟩
  · exact ⟨rfl, by unfold fcmp; rw [if_pos ⟨h1, h2⟩, if_neg (fun h => absurd (hc.2 h) (by assumption)), if_pos (hd.1 (by assumption))]; rfl⟩
  · exact ⟨rfl, by unfold fcmp; rw [if_pos ⟨h1, h2⟩, if_neg (fun h => absurd (hc.2 h) (by assumption)), if_neg (fun h => absurd (hd.2 h) (by assumption))]; rfl⟩
theorem rMul_ok (x y u v : Int) : Ctr Try.prog 32 [.agg [i64 x, i64 y], .agg [i64 u, i64 v]] [] (fun r o => o = [] ∧ r = res (fmul (x, y) (u, v))) := by
  refine fn_intro (E := env 0) tys_ok rfl rfl rfl Try.func32 (by kernel_rfl) rfl (by kernel_rfl) ?_
  (repeat' (conv => whnf); first | refine aC (fun _ => ?_) (fun _ => ?_) | refine aS ?_ | refine aG ?_ | refine aD ?_ | refine aH ?_ | refine aP_F2 ?_ | refine aI ?_ | refine aJ ?_ | (refine aK [] (rValid_ok x y) ?_) | (refine aK [] (rValid_ok u v) ?_) | fail); all_goals try (conv => whnf)
  · exact ⟨rfl, by unfold fmul; rw [if_neg (fun h => absurd h.1 (by assumption))]; rfl⟩
  · exact ⟨rfl, by unfold fmul; rw [if_neg (fun h => absurd h.2 (by assumption))]; rfl⟩
  have h1 := Classical.not_not.1 ‹¬¬VF (x, y)›
  have h2 := Classical.not_not.1 ‹¬¬VF (u, v)›
  have hb := vf_mul h1 h2
  dsimp only at hb
  (repeat' (conv => whnf); first | refine aC (fun _ => ?_) (fun _ => ?_) | refine aS ?_ | refine aG ?_ | refine aD ?_ | refine aH ?_ | refine aP_F2 ?_ | refine aI ?_ | refine aJ ?_ | (refine aK [] (rNew_ok (x * u) (y * v) (by omega) (by omega)) ?_) | fail); all_goals try (conv => whnf)
  exact ⟨rfl, by unfold fmul; rw [if_pos ⟨h1, h2⟩, ← h1.mul h2]; rfl⟩
theorem rAdd_ok (x y u v : Int) : Ctr Try.prog 37 [.agg [i64 x, i64 y], .agg [i64 u, i64 v]] [] (fun r o => o = [] ∧ r = res (fadd (x, y) (u, v))) := by
  refine fn_intro (E := env 0) tys_ok rfl rfl rfl Try.func37 (by kernel_rfl) rfl (by kernel_rfl) ?_
  (repeat' (conv => whnf); first | refine aC (fun _ => ?_) (fun _ => ?_) | refine aS ?_ | refine aG ?_ | refine aD ?_ | refine aH ?_ | refine aP_F2 ?_ | refine aI ?_ | refine aJ ?_ | (refine aK [] (rValid_ok x y) ?_) | (refine aK [] (rValid_ok u v) ?_) | fail); all_goals try (conv => whnf)
  · exact ⟨rfl, by unfold fadd; rw [if_neg (fun h => absurd h.1 (by assumption))]; rfl⟩
  · exact ⟨rfl, by unfold fadd; rw [if_neg (fun h => absurd h.2 (by assumption))]; rfl⟩
  have h1 := Classical.not_not.1 ‹¬¬VF (x, y)›
  have h2 := Classical.not_not.1 ‹¬¬VF (u, v)›
  have hb := vf_mul h1 h2
  dsimp only at hb
  (repeat' (conv => whnf); first | refine aC (fun _ => ?_) (fun _ => ?_) | refine aS ?_ | refine aG ?_ | refine aD ?_ | refine aH ?_ | refine aP_F2 ?_ | refine aI ?_ | refine aJ ?_ | (refine aK [] (rNew_ok (x * v + u * y) (y * v) (by omega) (by omega)) ?_) | fail); all_goals try (conv => whnf)
  exact ⟨rfl, by unfold fadd; rw [if_pos ⟨h1, h2⟩, ← h1.add h2]; rfl⟩
theorem rDiv_ok (x y u v : Int) : Ctr Try.prog 72 [.agg [i64 x, i64 y], .agg [i64 u, i64 v]] [] (fun r o => o = [] ∧ r = res (fdiv (x, y) (u, v))) := by
  refine fn_intro (E := env 0) tys_ok rfl rfl rfl Try.func72 (by kernel_rfl) rfl (by kernel_rfl) ?_
  (repeat' (conv => whnf); first | refine aC (fun _ => ?_) (fun _ => ?_) | refine aS ?_ | refine aG ?_ | refine aD ?_ | refine aH ?_ | refine aP_F2 ?_ | refine aI ?_ | refine aJ ?_ | (refine aK [] (rValid_ok x y) ?_) | (refine aK [] (rValid_ok u v) ?_) | fail); all_goals try (conv => whnf)
  · exact ⟨rfl, by unfold fdiv; rw [if_neg (fun h => absurd h.1 (by assumption))]; rfl⟩
  · exact ⟨rfl, by unfold fdiv; rw [if_neg (fun h => absurd h.2.1 (by assumption))]; rfl⟩
  · exact ⟨rfl, by unfold fdiv; rw [if_neg (fun h => absurd (by assumption) h.2.2)]; rfl⟩
  have h1 := Classical.not_not.1 ‹¬¬VF (x, y)›
  have h2 := Classical.not_not.1 ‹¬¬VF (u, v)›
  have h3 : u ≠ 0 := by assumption
  have hb := vf_mul h1 h2
  dsimp only at hb
  (repeat' (conv => whnf); first | refine aC (fun _ => ?_) (fun _ => ?_) | refine aS ?_ | refine aG ?_ | refine aD ?_ | refine aH ?_ | refine aP_F2 ?_ | refine aI ?_ | refine aJ ?_ | (refine aK [] (rNew_ok (x * v) (y * u) (by omega) (by omega)) ?_) | fail); all_goals try (conv => whnf)
  exact ⟨rfl, by unfold fdiv; rw [if_pos ⟨h1, h2, h3⟩, ← h1.div h2 h3]; rfl⟩
end Go.Proofs.Ytbdahmfjeklgbaa
