/-
  A text of the proofs of this seat: lemmas that the statements' proofs use; it states nothing of the program by itself beyond the contracts that its theorems bear. Conditions: those that stand in each theorem. Its short name: T10.
-/
import Derived.Test.YtnlmmjmcackgjaaT9
set_option linter.unusedVariables false
set_option linter.unusedSimpArgs false
namespace Go.Proofs.Ytnlmmjmcackgjaa
open Go.Sx Go.Np Go.Tp
set_option maxRecDepth 4000
set_option maxHeartbeats 2000000
theorem aP_T10 {A B K : Prop} (k : K) (a : A := by (simp only [zA, zT, zD, zC, zN, ints_len, zR, lnl, fll, stl]; omega)) (b : B := by (simp only [zA, zT, zD, zC, zN, ints_len, zR, lnl, fll, stl]; omega)) : (A ∧ B) ∧ K := ⟨⟨a, b⟩, k⟩
theorem InV_ok (l : List Int) (hl : l.length ≤ 1000000) (x : Int) : Ctr Try.prog 43 [.vec 0, i64 x] [.vec 1 (ints l)] (fun r o => o = [.vec 1 (ints l)] ∧ r = .bp (x ∈ l)) := by
  refine Ctr.imp ?_
  refine fn_intro (E := env 1) tys_ok rfl rfl rfl Try.func43 (by kernel_rfl) rfl (by kernel_rfl) ?_
  have hll := ints_len l
  (repeat' (conv => whnf); first | (refine aC (fun _ => ?_) (fun _ => ?_) <;> try (exfalso; omega)) | refine aS ?_ | refine aG ?_ | refine aD ?_ | refine aH ?_ | refine aP_T10 ?_ | refine aI ?_ | refine aJ ?_ | fail); all_goals try (conv => whnf)
  refine LoopOb.mk (Y := Nat) (st := fun i => ⟨[(8, i64 i), (7, i64 (ints l).length), (1, i64 x), (0, .vec 0)], [.vec 1 (ints l)]⟩)
    (inv := fun i => i ≤ l.length ∧ ∀ j < i, ¬l.getD j 0 = x) (fun i => l.length - i) 0 [0] ⟨by omega, by omega⟩ (by (exact aL)) ?_
  rintro i ⟨hi, hv⟩
  (repeat' (conv => whnf); first | refine aS ?_ | refine aG ?_ | refine aD ?_ | refine aH ?_ | refine aP_T10 ?_ | refine aI ?_ | refine aJ ?_ | fail); all_goals try (conv => whnf)
  refine CondOb.mk (fun hlt => ?_) (fun hlt => ?_)
  · (repeat' (conv => whnf); first | (refine aC (fun _ => ?_) (fun _ => ?_) <;> try (exfalso; omega)) | refine aS ?_ | refine aG ?_ | refine aD ?_ | refine aH ?_ | refine aP_T10 ?_ | refine aI ?_ | refine aJ ?_ | refine ⟨i, rfl, by omega, ?_⟩ | refine ⟨_, ints_get (by omega), ?_⟩ | fail); all_goals try (conv => whnf)
    · have e : l.getD i 0 = x := by assumption
      exact ⟨rfl, Imp.bl ⟨fun _ => by rw [← e]; exact Go.Np.getD_in (by omega), fun _ => rfl⟩⟩
    · refine ⟨i + 1, [0], ⟨by omega, fun j hj => ?_⟩, by omega, by (exact aL)⟩
      by_cases e : j = i
      · rw [e]; assumption
      · exact hv j (by omega)
  · (repeat' (conv => whnf); first | refine aC (fun _ => ?_) (fun _ => ?_) | refine aS ?_ | refine aG ?_ | refine aD ?_ | refine aH ?_ | refine aP_T10 ?_ | refine aI ?_ | refine aJ ?_ | fail); all_goals try (conv => whnf)
    exact ⟨rfl, Imp.bl ⟨fun h => (by cases h), fun h => absurd h (idx_no fun j hj => hv j (by omega))⟩⟩
/- the routes that the generator makes -/
structure GrG (k : Nat) (R : List (List Int)) : Prop where
  k1 : 1 ≤ k
  k2 : k ≤ 6
  l : R.length ≤ 7
  r : ∀ r ∈ R, RtI k r
theorem GrG.chk {k : Nat} {R : List (List Int)} (h : GrG k R) : chkN (rtN k R) = 0 :=
  rtN_chk ⟨h.k1, by have := h.k2; omega⟩ (by have := h.l; omega) fun i hi => h.r _ (by
    rw [List.getD_eq_getElem?_getD, List.getElem?_eq_getElem hi]; exact List.getElem_mem hi)
/- the start of a route -/
structure RtS (k : Nat) (r : List Int) : Prop where
  b : ∀ i, i < r.length → 0 ≤ r.getD i 0 ∧ r.getD i 0 < k
  d : ∀ i j, i < j → j < r.length → r.getD i 0 ≠ r.getD j 0
theorem RtS.snoc {k : Nat} {r : List Int} {x : Int} (h : RtS k r) (h0 : 0 ≤ x) (h1 : x < k) (h2 : x ∉ r) : RtS k (r ++ [x]) := by
  have gl : ∀ i, i < r.length → (r ++ [x]).getD i 0 = r.getD i 0 := fun i hi => by simp [List.getD_eq_getElem?_getD, List.getElem?_append_left hi]
  have gr : (r ++ [x]).getD r.length 0 = x := by simp [List.getD_eq_getElem?_getD]
  refine ⟨fun i hi => ?_, fun i j hij hj => ?_⟩
  · simp only [List.length_append, List.length_singleton] at hi
    by_cases e : i = r.length
    · subst e; rw [gr]; omega
    · rw [gl i (by omega)]; exact h.b i (by omega)
  · simp only [List.length_append, List.length_singleton] at hj
    rw [gl i (by omega)]
    by_cases e : j = r.length
    · subst e; rw [gr]; intro e; exact h2 (e ▸ Go.Np.getD_in hij)
    · rw [gl j (by omega)]; exact h.d i j hij (by omega)
theorem graph_ok (l : List Int) (hl : l.length ≤ 9223372036854775807) : Ctr Try.prog 13 [.psl 1 (ints l)] [] (fun r o => ∃ x : Nat × List (List Int), GrG x.1 x.2 ∧ o = [] ∧ r = ntv (rtN x.1 x.2)) := by
  refine fn_intro (E := env 0) tys_ok rfl rfl rfl Try.func13 (by kernel_rfl) rfl (by kernel_rfl) ?_
  have hL : (l.take 2000).length ≤ 2000 := by rw [List.length_take]; omega
  (repeat' (conv => whnf); first | (refine aC (fun _ => ?_) (fun _ => ?_) <;> try (exfalso; omega)) | refine aS ?_ | refine aG ?_ | refine aD ?_ | refine aH ?_ | refine aP_T10 ?_ | refine aI ?_ | refine aJ ?_ | (refine aK [] (New_ok l hl) ?_) | fail); all_goals try (conv => whnf)
  refine CallOb.mk [1] (Range_ok _ 0 hL (by omega) 1 6 (by omega) (by omega) (by omega)) rfl (ImpL.refl _) rfl rfl ?_
  rintro _ _ ⟨⟨k, p1⟩, ⟨k1, k2, hp1⟩, rfl, rfl⟩
  dsimp only at k1 k2 hp1 ⊢
  obtain ⟨k, rfl⟩ : ∃ n : Nat, k = n := ⟨k.toNat, by omega⟩
  (repeat' (conv => whnf); first | (refine aC (fun _ => ?_) (fun _ => ?_) <;> try (exfalso; omega)) | refine aS ?_ | refine aG ?_ | refine aD ?_ | refine aH ?_ | refine aP_T10 ?_ | refine aI ?_ | refine aJ ?_ | fail); all_goals try (conv => whnf)
  refine CallOb.mk [1] (N_ok _ p1 hL hp1 8 (by omega) (by omega)) rfl (ImpL.refl _) rfl rfl ?_
  rintro _ _ ⟨⟨v, p2⟩, ⟨v1, v2, hp2⟩, rfl, rfl⟩
  dsimp only at v1 v2 hp2 ⊢
  (repeat' (conv => whnf); first | (refine aC (fun _ => ?_) (fun _ => ?_) <;> try (exfalso; omega)) | refine aS ?_ | refine aG ?_ | refine aD ?_ | refine aH ?_ | refine aP_T10 ?_ | refine aI ?_ | refine aJ ?_ | fail); all_goals try (conv => whnf)
  refine LoopOb.mk (Y := Int × List (List Int) × Nat) (st := fun y => ⟨[(6, i64 y.1), (5, .vec 2), (4, i64 k), (3, .ptr 1 0), (2, .ptr 0 0)], [.box [.nil, .nil, .nil], src (l.take 2000) y.2.2, .vec 1 (rws y.2.1)]⟩)
    (inv := fun y => (0 ≤ y.1 ∧ y.1 + y.2.1.length ≤ 7) ∧ (∀ r ∈ y.2.1, RtI k r) ∧ y.2.2 ≤ 2000) (fun y => y.1.toNat) (v, [], p2) [0, 1, 2] ⟨⟨v1, by simp only [List.length_nil]; omega⟩, by simp, hp2⟩ (by (exact aL)) ?_
  clear v1 v2 hp2 p2 hp1 p1 v
  rintro ⟨i, R, p⟩ ⟨⟨i0, i1⟩, hR, hp⟩
  dsimp only at i0 i1 hR hp ⊢
  have hrl := rws_len R
  (repeat' (conv => whnf); first | refine aS ?_ | refine aG ?_ | refine aD ?_ | refine aH ?_ | refine aP_T10 ?_ | refine aI ?_ | refine aJ ?_ | fail); all_goals try (conv => whnf)
  refine CondOb.mk (fun hlt => ?_) (fun hlt => ?_)
  · (repeat' (conv => whnf); first | (refine aC (fun _ => ?_) (fun _ => ?_) <;> try (exfalso; omega)) | refine aS ?_ | refine aG ?_ | refine aD ?_ | refine aH ?_ | refine aP_T10 ?_ | refine aI ?_ | refine aJ ?_ | fail); all_goals try (conv => whnf)
    refine CallOb.mk [1] (Range_ok _ p hL hp 1 4 (by omega) (by omega) (by omega)) rfl (ImpL.refl _) rfl rfl ?_
    rintro _ _ ⟨⟨w, p1⟩, ⟨w1, w2, hp1⟩, rfl, rfl⟩
    dsimp only at w1 w2 hp1 ⊢
    (repeat' (conv => whnf); first | (refine aC (fun _ => ?_) (fun _ => ?_) <;> try (exfalso; omega)) | refine aS ?_ | refine aG ?_ | refine aD ?_ | refine aH ?_ | refine aP_T10 ?_ | refine aI ?_ | refine aJ ?_ | fail); all_goals try (conv => whnf)
    refine LoopOb.mk (Y := Int × List Int × Nat) (st := fun y => ⟨[(8, i64 y.1), (7, .vec 3), (6, i64 i), (5, .vec 2), (4, i64 k), (3, .ptr 1 0), (2, .ptr 0 0)], [.box [.nil, .nil, .nil], src (l.take 2000) y.2.2, .vec 1 (rws R), .vec 1 (ints y.2.1)]⟩)
      (inv := fun y => (0 ≤ y.1 ∧ y.1 + y.2.1.length ≤ 4 ∧ (y.2.1.length = 0 → 1 ≤ y.1)) ∧ RtS k y.2.1 ∧ y.2.2 ≤ 2000) (fun y => y.1.toNat) (w, [], p1) [0, 1, 2, 3] ⟨⟨by dsimp only; omega, by simp only [List.length_nil]; omega, fun _ => w1⟩, ⟨by simp, by simp⟩, hp1⟩ (by (exact aL)) ?_
    clear w1 w2 hp1 p1 w hp p
    rintro ⟨j, r, p⟩ ⟨⟨j0, j1, j2⟩, hr, hp⟩
    dsimp only at j0 j1 j2 hr hp ⊢
    have hil := ints_len r
    (repeat' (conv => whnf); first | refine aS ?_ | refine aG ?_ | refine aD ?_ | refine aH ?_ | refine aP_T10 ?_ | refine aI ?_ | refine aJ ?_ | fail); all_goals try (conv => whnf)
    refine CondOb.mk (fun hlt2 => ?_) (fun hlt2 => ?_)
    · (repeat' (conv => whnf); first | (refine aC (fun _ => ?_) (fun _ => ?_) <;> try (exfalso; omega)) | refine aS ?_ | refine aG ?_ | refine aD ?_ | refine aH ?_ | refine aP_T10 ?_ | refine aI ?_ | refine aJ ?_ | fail); all_goals try (conv => whnf)
      refine CallOb.mk [1] (N_ok _ p hL hp k (by omega) (by omega)) rfl (ImpL.refl _) rfl rfl ?_
      rintro _ _ ⟨⟨x, p1⟩, ⟨x1, x2, hp1⟩, rfl, rfl⟩
      dsimp only at x1 x2 hp1 ⊢
      (repeat' (conv => whnf); first | (refine aC (fun _ => ?_) (fun _ => ?_) <;> try (exfalso; omega)) | refine aS ?_ | refine aG ?_ | refine aD ?_ | refine aH ?_ | refine aP_T10 ?_ | refine aI ?_ | refine aJ ?_ | (refine aK [3] (InV_ok r (by omega) x) ?_) | fail); all_goals try (conv => whnf)
      all_goals first
        | (have hx := (by assumption : ¬x ∈ r); refine ⟨(j - 1, r ++ [x], p1), [0, 1, 2, 5], ⟨⟨by dsimp only; omega, by simp only [List.length_append, List.length_singleton]; omega, by simp⟩, hr.snoc x1 (by omega) hx, hp1⟩, by dsimp only; omega, ?_⟩; dsimp only; rw [ints_app]; (exact aL); done)
        | (have hx := Classical.not_not.1 (by assumption : ¬¬x ∈ r); refine ⟨(j - 1, r, p1), [0, 1, 2, 3], ⟨⟨by dsimp only; omega, by dsimp only; omega, fun h => by have h : r.length = 0 := h; rw [List.length_eq_zero_iff.1 h] at hx; simp at hx⟩, hr, hp1⟩, by dsimp only; omega, ?_⟩; (exact aL); done)
        | trace_state
    · (repeat' (conv => whnf); first | (refine aC (fun _ => ?_) (fun _ => ?_) <;> try (exfalso; omega)) | refine aS ?_ | refine aG ?_ | refine aD ?_ | refine aP_T10 ?_ | refine aI ?_ | refine aJ ?_ | fail); all_goals try (conv => whnf)
      refine .mk [.fz 3] ?_
      have hrt : RtI k r := ⟨by omega, by omega, hr.b, hr.d⟩
      (repeat' (conv => whnf); first | (refine aC (fun _ => ?_) (fun _ => ?_) <;> try (exfalso; omega)) | refine aS ?_ | refine aG ?_ | refine aD ?_ | refine aH ?_ | refine aP_T10 ?_ | refine aI ?_ | refine aJ ?_ | fail); all_goals try (conv => whnf)
      exact ⟨(i - 1, R ++ [r], p), [0, 1, 5], ⟨⟨by dsimp only; omega, by simp only [List.length_append, List.length_singleton]; omega⟩, fun x hx => by
        rcases List.mem_append.1 hx with hx | hx
        · exact hR x hx
        · rw [List.mem_singleton.1 hx]; exact hrt, hp⟩, by dsimp only; omega, by dsimp only; rw [rws_app]; (exact aL)⟩
  · (repeat' (conv => whnf); first | (refine aC (fun _ => ?_) (fun _ => ?_) <;> try (exfalso; omega)) | refine aS ?_ | refine aG ?_ | refine aD ?_ | refine aP_T10 ?_ | refine aI ?_ | refine aJ ?_ | fail); all_goals try (conv => whnf)
    refine .mk [.fz 2] ?_
    (repeat' (conv => whnf); first | (refine aC (fun _ => ?_) (fun _ => ?_) <;> try (exfalso; omega)) | refine aS ?_ | refine aG ?_ | refine aD ?_ | refine aH ?_ | refine aP_T10 ?_ | refine aI ?_ | refine aJ ?_ | (refine aK [] (lroute_ok k (by omega) R (by omega)) ?_) | fail); all_goals try (conv => whnf)
    exact ⟨(k, R), ⟨by dsimp only; omega, by dsimp only; omega, by dsimp only; omega, hR⟩, rfl, rfl⟩
end Go.Proofs.Ytnlmmjmcackgjaa
