/-
  A text of the proofs of this seat: lemmas that the statements' proofs use; it states nothing of the program by itself beyond the contracts that its theorems bear. Conditions: those that stand in each theorem. Its short name: N4 N5.
-/
import Derived.Test.YtnlmmjmcackgjaaN3
set_option linter.unusedVariables false
set_option linter.unusedSimpArgs false
section
namespace Go.Proofs.Ytnlmmjmcackgjaa
open Go.Sx Go.Np
set_option maxRecDepth 4000
set_option maxHeartbeats 2000000
theorem lk_cons {k a : Int} {v : SV} {l : List (Int × SV)} : List.lookup k ((a, v) :: l) = if k = a then some v else List.lookup k l := by
  by_cases h : k = a
  · subst h; simp [List.lookup]
  · rw [if_neg h]
    have : (k == a) = false := by simp [h]
    simp only [List.lookup, this]
theorem aP_N4 {A B K : Prop} (k : K) (a : A := by (simp only [zA, zT, zD, zC, zN, ints_len, zR, lnl, fll, stl]; omega)) (b : B := by (simp only [zA, zT, zD, zC, zN, ints_len, zR, lnl, fll, stl]; omega)) : (A ∧ B) ∧ K := ⟨⟨a, b⟩, k⟩
theorem kind_ok (k : Int) : Ctr Try.prog 121 [i64 k] [] (fun r o => ∃ s : SV × Bool, ((k < 1 ∨ 5 < k) ∧ s = (.raw .nilIface, false) ∨ k = 1 ∧ s = (.ifc 154 (.agg []), true) ∨ k = 2 ∧ s = (.ifc 155 (.agg []), true) ∨ k = 3 ∧ s = (.ifc 156 (.agg []), true) ∨ k = 4 ∧ s = (.ifc 157 (.agg []), true) ∨ k = 5 ∧ s = (.ifc 158 (.agg []), true)) ∧ o = [] ∧ r = .tup [s.1, .bl s.2]) := by
  refine fn_intro (E := env 0) tys_ok rfl rfl rfl Try.func121 (by kernel_rfl) rfl (by kernel_rfl) ?_
  (repeat' (conv => whnf); first | refine aC (fun _ => ?_) (fun _ => ?_) | refine aS ?_ | refine aG ?_ | refine aD ?_ | refine aH ?_ | refine aP_N4 ?_ | refine aI ?_ | refine aJ ?_ | refine PutOb.mk (fun h => absurd rfl h) (fun _ => ?_) | fail); all_goals try (conv => whnf)
  refine MapOb.mk (fun v hv => ?_) (fun hv => ?_)
  all_goals simp only [List.nil_append, List.cons_append, lk_cons, List.lookup_nil] at hv
  · repeat' (split at hv)
    all_goals first
      | (cases hv; done)
      | (injection hv with hv; subst hv)
    all_goals
      subst k
      (repeat' (conv => whnf); first | refine aC (fun _ => ?_) (fun _ => ?_) | refine aS ?_ | refine aG ?_ | refine aD ?_ | refine aH ?_ | refine aP_N4 ?_ | refine aI ?_ | refine aJ ?_ | refine PutOb.mk (fun h => absurd rfl h) (fun _ => ?_) | fail); all_goals try (conv => whnf)
      exact ⟨(_, true), by simp, rfl, rfl⟩
  · have hk : k < 1 ∨ 5 < k := by
      repeat' (split at hv)
      all_goals first
        | (cases hv; done)
        | omega
    (repeat' (conv => whnf); first | refine aC (fun _ => ?_) (fun _ => ?_) | refine aS ?_ | refine aG ?_ | refine aD ?_ | refine aH ?_ | refine aP_N4 ?_ | refine aI ?_ | refine aJ ?_ | fail); all_goals try (conv => whnf)
    exact ⟨(_, false), .inl ⟨hk, rfl⟩, rfl, rfl⟩
theorem lCheck_ok (l : Ln) (hl : LL l) : Ctr Try.prog 103 [lv l] [] (fun r o => o = [] ∧ r = i64 (lnErr l)) := by
  refine fn_intro (E := env 0) tys_ok rfl rfl rfl Try.func103 (by kernel_rfl) rfl (by kernel_rfl) ?_
  (repeat' (conv => whnf); first | refine aC (fun _ => ?_) (fun _ => ?_) | refine aS ?_ | refine aG ?_ | refine aD ?_ | refine aH ?_ | refine aP_N4 ?_ | refine aI ?_ | refine aJ ?_ | fail); all_goals try (conv => whnf)
  refine CallOb.mk [] (kind_ok l.k) rfl (ImpL.refl _) rfl rfl ?_
  rintro _ _ ⟨⟨s, b⟩, hs, rfl, rfl⟩
  dsimp only at hs ⊢
  have rng : ∀ {e : Int}, 1 ≤ l.k ∧ l.k ≤ 5 → (1 ≤ l.c ∧ l.c ≤ 4000 ∧ 1 ≤ l.n ∧ l.n ≤ 6) → e = lsErr l → e = lnErr l := fun h1 h2 h3 => by
    unfold lnErr; rw [if_neg (by omega), if_neg (by omega)]; exact h3
  rcases hs with ⟨hk, hs⟩ | ⟨hk, hs⟩ | ⟨hk, hs⟩ | ⟨hk, hs⟩ | ⟨hk, hs⟩ | ⟨hk, hs⟩
  · cases hs
    (repeat' (conv => whnf); first | refine aC (fun _ => ?_) (fun _ => ?_) | refine aS ?_ | refine aG ?_ | refine aD ?_ | refine aH ?_ | refine aP_N4 ?_ | refine aI ?_ | refine aJ ?_ | fail); all_goals try (conv => whnf)
    exact ⟨rfl, by unfold lnErr; rw [if_pos hk]; rfl⟩
  · cases hs
    (repeat' (conv => whnf); first | (refine aC (fun _ => ?_) (fun _ => ?_) <;> try (exfalso; omega)) | refine aS ?_ | refine aG ?_ | refine aD ?_ | refine aH ?_ | refine aP_N4 ?_ | refine aI ?_ | refine aJ ?_ | refine InvOb.mk 147 (by decide +kernel) ?_ | (refine aK [] (fifo_ok l hl hk) ?_) | fail); all_goals try (conv => whnf)
    all_goals first
      | exact ⟨rfl, by unfold lnErr; rw [if_neg (by omega), if_pos (by omega)]; rfl⟩
      | exact ⟨rfl, by unfold lnErr; rw [if_neg (by omega), if_neg (by omega)]; rfl⟩
      | trace_state
  · cases hs
    (repeat' (conv => whnf); first | (refine aC (fun _ => ?_) (fun _ => ?_) <;> try (exfalso; omega)) | refine aS ?_ | refine aG ?_ | refine aD ?_ | refine aH ?_ | refine aP_N4 ?_ | refine aI ?_ | refine aJ ?_ | refine InvOb.mk 151 (by decide +kernel) ?_ | (refine aK [] (ranks_ok l hl hk) ?_) | fail); all_goals try (conv => whnf)
    all_goals first
      | exact ⟨rfl, by unfold lnErr; rw [if_neg (by omega), if_pos (by omega)]; rfl⟩
      | exact ⟨rfl, by unfold lnErr; rw [if_neg (by omega), if_neg (by omega)]; rfl⟩
      | trace_state
  · cases hs
    (repeat' (conv => whnf); first | (refine aC (fun _ => ?_) (fun _ => ?_) <;> try (exfalso; omega)) | refine aS ?_ | refine aG ?_ | refine aD ?_ | refine aH ?_ | refine aP_N4 ?_ | refine aI ?_ | refine aJ ?_ | refine InvOb.mk 154 (by decide +kernel) ?_ | (refine aK [] (robin_ok l hl hk (by omega)) ?_) | fail); all_goals try (conv => whnf)
    all_goals first
      | exact ⟨rfl, by unfold lnErr; rw [if_neg (by omega), if_pos (by omega)]; rfl⟩
      | exact ⟨rfl, by unfold lnErr; rw [if_neg (by omega), if_neg (by omega)]; rfl⟩
      | trace_state
  · cases hs
    (repeat' (conv => whnf); first | (refine aC (fun _ => ?_) (fun _ => ?_) <;> try (exfalso; omega)) | refine aS ?_ | refine aG ?_ | refine aD ?_ | refine aH ?_ | refine aP_N4 ?_ | refine aI ?_ | refine aJ ?_ | refine InvOb.mk 161 (by decide +kernel) ?_ | (refine aK [] (deficits_ok l hl hk (by omega)) ?_) | fail); all_goals try (conv => whnf)
    all_goals first
      | exact ⟨rfl, by unfold lnErr; rw [if_neg (by omega), if_pos (by omega)]; rfl⟩
      | exact ⟨rfl, by unfold lnErr; rw [if_neg (by omega), if_neg (by omega)]; rfl⟩
      | trace_state
  · cases hs
    (repeat' (conv => whnf); first | (refine aC (fun _ => ?_) (fun _ => ?_) <;> try (exfalso; omega)) | refine aS ?_ | refine aG ?_ | refine aD ?_ | refine aH ?_ | refine aP_N4 ?_ | refine aI ?_ | refine aJ ?_ | refine InvOb.mk 164 (by decide +kernel) ?_ | (refine aK [] (times_ok l hl hk (by omega)) ?_) | fail); all_goals try (conv => whnf)
    all_goals first
      | exact ⟨rfl, by unfold lnErr; rw [if_neg (by omega), if_pos (by omega)]; rfl⟩
      | exact ⟨rfl, by unfold lnErr; rw [if_neg (by omega), if_neg (by omega)]; rfl⟩
      | trace_state
end Go.Proofs.Ytnlmmjmcackgjaa
end
section
namespace Go.Proofs.Ytnlmmjmcackgjaa
open Go.Sx Go.Np
set_option maxRecDepth 4000
set_option maxHeartbeats 2000000
theorem aP_N5 {A B K : Prop} (k : K) (a : A := by (simp only [zA, zT, zD, zC, zN, ints_len, zR, lnl, fll, stl]; omega)) (b : B := by (simp only [zA, zT, zD, zC, zN, ints_len, zR, lnl, fll, stl]; omega)) : (A ∧ B) ∧ K := ⟨⟨a, b⟩, k⟩
theorem rlCheck_ok (l : Ln) (hl : LL l) : Ctr Try.prog 91 [lv l] [] (fun r o => o = [] ∧ r = i64 (lnErr l)) := by
  refine fn_intro (E := env 0) tys_ok rfl rfl rfl Try.func91 (by kernel_rfl) rfl (by kernel_rfl) ?_
  have hw := hl.w
  have hs := hl.s
  have c1 := rwithin_ok l.w hl.w 1 20
  have c2 := rwithin_ok l.w hl.w 1 6000
  have c3 := rwithin_ok l.s hl.s (-1) (l.n - 1)
  have hlw := ints_len l.w
  have hls := ints_len l.s
  (repeat' (conv => whnf); first | (refine aC (fun _ => ?_) (fun _ => ?_) <;> try (exfalso; omega)) | refine aS ?_ | refine aG ?_ | refine aD ?_ | refine aH ?_ | refine aP_N5 ?_ | refine aI ?_ | refine aJ ?_ | (refine aK [] c1 ?_) | (refine aK [] c2 ?_) | (refine aK [] c3 ?_) | fail); all_goals try (conv => whnf)
  all_goals first
    | (refine ⟨rfl, ?_⟩; show SV.num IntKind.i64 _ = SV.num IntKind.i64 _; congr 1; unfold lnErr lsErr; clear c1 c2 c3; grind)
    | trace_state
end Go.Proofs.Ytnlmmjmcackgjaa
end
