/-
  A text of the proofs of this seat: lemmas that the statements' proofs use; it states nothing of the program by itself beyond the contracts that its theorems bear. Conditions: those that stand in each theorem. Its short name: Kn2.
-/
import Derived.Test.YtbdahmfjeklgbaaKn
import Derived.Test.YtbdahmfjeklgbaaP5
set_option linter.unusedVariables false
set_option linter.unusedSimpArgs false
namespace Go.Proofs.Ytbdahmfjeklgbaa
open Go.Sx Go.Fq
set_option maxRecDepth 4000
set_option maxHeartbeats 2000000
theorem aP_Kn2 {A B K : Prop} (k : K) (a : A := by (simp only [zA, zT, zD, zC, zN, ints_len, zR, fr_len, rw_len]; omega)) (b : B := by (simp only [zA, zT, zD, zC, zN, ints_len, zR, fr_len, rw_len]; omega)) : (A ∧ B) ∧ K := ⟨⟨a, b⟩, k⟩
theorem Range_ok (L : List Int) (k : Nat) (hL : L.length ≤ 2000) (hk : k ≤ 2000) (lo hi : Int) (h1 : -1000000 ≤ lo) (h2 : lo ≤ hi) (h3 : hi ≤ 1000000) :
    Ctr Try.prog 27 [.ptr 0 0, i64 lo, i64 hi] [src L k] (fun r o => ∃ x : Int × Nat, (lo ≤ x.1 ∧ x.1 ≤ hi ∧ x.2 ≤ 2000) ∧ o = [src L x.2] ∧ r = i64 x.1) := by
  refine fn_intro (E := env 1) tys_ok rfl rfl rfl Try.func27 (by kernel_rfl) rfl (by kernel_rfl) ?_
  (repeat' (conv => whnf); first | refine aC (fun _ => ?_) (fun _ => ?_) | refine aS ?_ | refine aG ?_ | refine aD ?_ | refine aH ?_ | refine aP_Kn2 ?_ | refine aI ?_ | refine aJ ?_ | fail); all_goals try (conv => whnf)
  refine CallOb.mk [0] (N_ok L k hL hk (hi - lo + 1) (by omega) (by omega)) rfl (ImpL.refl _) rfl rfl ?_
  rintro _ _ ⟨⟨v, k'⟩, ⟨h4, h5, hk'⟩, rfl, rfl⟩
  dsimp only at h4 h5 hk' ⊢
  (repeat' (conv => whnf); first | refine aC (fun _ => ?_) (fun _ => ?_) | refine aS ?_ | refine aG ?_ | refine aD ?_ | refine aH ?_ | refine aP_Kn2 ?_ | refine aI ?_ | refine aJ ?_ | fail); all_goals try (conv => whnf)
  exact ⟨(lo + v, k'), ⟨by simp only; omega, by simp only; omega, hk'⟩, rfl, rfl⟩
theorem Integer_ok (L : List Int) (k : Nat) (hL : L.length ≤ 2000) (hk : k ≤ 2000) (n : Int) (h1 : 0 ≤ n) (h3 : n ≤ 1000000) :
    Ctr Try.prog 11 [.ptr 0 0, i64 n] [src L k] (fun r o => ∃ x : Int × Nat, (-n ≤ x.1 ∧ x.1 ≤ n ∧ x.2 ≤ 2000) ∧ o = [src L x.2] ∧ r = .agg [i64 x.1, i64 1]) := by
  refine fn_intro (E := env 1) tys_ok rfl rfl rfl Try.func11 (by kernel_rfl) rfl (by kernel_rfl) ?_
  (repeat' (conv => whnf); first | refine aC (fun _ => ?_) (fun _ => ?_) | refine aS ?_ | refine aG ?_ | refine aD ?_ | refine aH ?_ | refine aP_Kn2 ?_ | refine aI ?_ | refine aJ ?_ | fail); all_goals try (conv => whnf)
  refine CallOb.mk [0] (Range_ok L k hL hk (0 - n) n (by omega) (by omega) (by omega)) rfl (ImpL.refl _) rfl rfl ?_
  rintro _ _ ⟨⟨v, k'⟩, ⟨h4, h5, hk'⟩, rfl, rfl⟩
  dsimp only at h4 h5 hk' ⊢
  (repeat' (conv => whnf); first | refine aC (fun _ => ?_) (fun _ => ?_) | refine aS ?_ | refine aG ?_ | refine aD ?_ | refine aH ?_ | refine aP_Kn2 ?_ | refine aI ?_ | refine aJ ?_ | fail); all_goals try (conv => whnf)
  exact ⟨(v, k'), ⟨by simp only; omega, h5, hk'⟩, rfl, rfl⟩
theorem Pick2_ok (L : List Int) (k : Nat) (hL : L.length ≤ 2000) (hk : k ≤ 2000) (l : List F) (hl : 1 ≤ l.length) (hl2 : l.length ≤ 1000000) :
    Ctr Try.prog 38 [.ptr 0 0, fsl l] [src L k] (fun r o => ∃ x : F × Nat, (x.1 ∈ l ∧ x.2 ≤ 2000) ∧ o = [src L x.2] ∧ r = .agg [i64 x.1.1, i64 x.1.2]) := by
  refine fn_intro (E := env 1) tys_ok rfl rfl rfl Try.func38 (by kernel_rfl) rfl (by kernel_rfl) ?_
  have hll := fr_len l
  (repeat' (conv => whnf); first | refine aC (fun _ => ?_) (fun _ => ?_) | refine aS ?_ | refine aG ?_ | refine aD ?_ | refine aH ?_ | refine aP_Kn2 ?_ | refine aI ?_ | refine aJ ?_ | fail); all_goals try (conv => whnf)
  refine CallOb.mk [0] (N_ok L k hL hk (fr2 l).length (by omega) (by omega)) rfl (ImpL.refl _) rfl rfl ?_
  rintro _ _ ⟨⟨v, k'⟩, ⟨h1, h2, hk'⟩, rfl, rfl⟩
  dsimp only at h1 h2 hk' ⊢
  (repeat' (conv => whnf); first | refine aC (fun _ => ?_) (fun _ => ?_) | refine aS ?_ | refine aG ?_ | refine aD ?_ | refine aH ?_ | refine aP_Kn2 ?_ | refine aI ?_ | refine aJ ?_ | fail); all_goals try (conv => whnf)
  refine ⟨v.toNat, _, by omega, fr_get (by omega), ?_⟩
  (repeat' (conv => whnf); first | refine aC (fun _ => ?_) (fun _ => ?_) | refine aS ?_ | refine aG ?_ | refine aD ?_ | refine aH ?_ | refine aP_Kn2 ?_ | refine aI ?_ | refine aJ ?_ | fail); all_goals try (conv => whnf)
  have hm : l.getD v.toNat (0, 1) ∈ l := by
    rw [List.getD_eq_getElem?_getD, List.getElem?_eq_getElem (show v.toNat < l.length by omega)]; exact List.getElem_mem _
  exact ⟨(l.getD v.toNat (0, 1), k'), ⟨hm, hk'⟩, rfl, rfl⟩
theorem vf_int {n : Int} (h1 : -1000000 ≤ n) (h2 : n ≤ 1000000) : VF (n, 1) := ⟨by omega, by omega, by simp only; omega, by simp only; omega, by simp⟩
theorem vf_app {l : List F} {x : F} (hv : ∀ f ∈ l, VF f) (hx : VF x) : ∀ f ∈ l ++ [x], VF f := by
  intro f hf
  rcases List.mem_append.1 hf with h | h
  · exact hv f h
  · rw [List.mem_singleton.1 h]; exact hx
/- fractions that are small integers, or from a list of valid ones -/
theorem Point_ok (L : List Int) (k : Nat) (hL : L.length ≤ 2000) (hk : k ≤ 2000) (n : Nat) (hn : n ≤ 1000000000) :
    Ctr Try.prog 18 [.ptr 0 0, i64 n] [src L k] (fun r o => ∃ x : List F × Nat, (x.1.length = n ∧ (∀ f ∈ x.1, VF f) ∧ x.2 ≤ 2000) ∧ o = [src L x.2] ∧ r = fsl x.1) := by
  refine Ctr.impE ?_
  refine fn_intro (E := env 1) tys_ok rfl rfl rfl Try.func18 (by kernel_rfl) rfl (by kernel_rfl) ?_
  (repeat' (conv => whnf); first | refine aC (fun _ => ?_) (fun _ => ?_) | refine aS ?_ | refine aG ?_ | refine aD ?_ | refine aH ?_ | refine aP_Kn2 ?_ | refine aI ?_ | refine aJ ?_ | fail); all_goals try (conv => whnf)
  refine LoopOb.mk (Y := List F × Nat) (st := fun y => ⟨[(6, i64 y.1.length), (5, .vec 1), (0, .ptr 0 0), (1, i64 n)], [src L y.2, .vec 2 (fr2 y.1)]⟩)
    (inv := fun y => y.1.length ≤ n ∧ (∀ f ∈ y.1, VF f) ∧ y.2 ≤ 2000) (fun y => n - y.1.length) ([], k) [0, 2] ⟨by simp, by simp, hk⟩ (by (exact aL)) ?_
  rintro ⟨l, k⟩ ⟨hl, hv, hk⟩
  dsimp only at hl hv hk ⊢
  have hll := fr_len l
  (repeat' (conv => whnf); first | refine aS ?_ | refine aG ?_ | refine aD ?_ | refine aH ?_ | refine aP_Kn2 ?_ | refine aI ?_ | refine aJ ?_ | fail); all_goals try (conv => whnf)
  refine CondOb.mk (fun hlt => ?_) (fun hlt => ?_)
  · (repeat' (conv => whnf); first | refine LitOb.ful ?_ | (refine aC (fun _ => ?_) (fun _ => ?_) <;> try (exfalso; omega)) | refine aS ?_ | refine aG ?_ | refine aD ?_ | refine aH ?_ | refine aP_Kn2 ?_ | refine aI ?_ | refine aJ ?_ | fail); all_goals try (conv => whnf)
    refine CallOb.mk [0] (Pick_ok L k hL hk [1, 4, 12] (by decide) (by decide)) rfl ⟨Imp.refl _, Imp.fulp rfl, trivial⟩ rfl rfl ?_
    rintro _ _ ⟨⟨v, k1⟩, ⟨h1, hk1⟩, rfl, rfl⟩
    dsimp only at h1 hk1 ⊢
    have hv0 : 0 ≤ v ∧ v ≤ 12 := by
      simp only [List.mem_cons, List.not_mem_nil, or_false] at h1
      omega
    (repeat' (conv => whnf); first | (refine aC (fun _ => ?_) (fun _ => ?_) <;> try (exfalso; omega)) | refine aS ?_ | refine aG ?_ | refine aD ?_ | refine aH ?_ | refine aP_Kn2 ?_ | refine aI ?_ | refine aJ ?_ | fail); all_goals try (conv => whnf)
    refine CallOb.mk [0] (Integer_ok L k1 hL hk1 v (by omega) (by omega)) rfl (ImpL.refl _) rfl rfl ?_
    rintro _ _ ⟨⟨u, k2⟩, ⟨h2, h3, hk2⟩, rfl, rfl⟩
    dsimp only at h2 h3 hk2 ⊢
    (repeat' (conv => whnf); first | (refine aC (fun _ => ?_) (fun _ => ?_) <;> try (exfalso; omega)) | refine aS ?_ | refine aG ?_ | refine aD ?_ | refine aH ?_ | refine aP_Kn2 ?_ | refine aI ?_ | refine aJ ?_ | fail); all_goals try (conv => whnf)
    refine CallOb.mk [0] (N_ok L k2 hL hk2 3 (by omega) (by omega)) rfl (ImpL.refl _) rfl rfl ?_
    rintro _ _ ⟨⟨t, k3⟩, ⟨h4, h5, hk3⟩, rfl, rfl⟩
    dsimp only at h4 h5 hk3 ⊢
    (repeat' (conv => whnf); first | refine LitOb.ful ?_ | (refine aC (fun _ => ?_) (fun _ => ?_) <;> try (exfalso; omega)) | refine aS ?_ | refine aG ?_ | refine aD ?_ | refine aH ?_ | refine aP_Kn2 ?_ | refine aI ?_ | refine aJ ?_ | (refine CallOb.mk [0] (N_ok L k3 hL hk3 5 (by omega) (by omega)) rfl (ImpL.refl _) rfl rfl ?_; rintro _ _ ⟨⟨t4, k4⟩, ⟨h6, h7, hk4⟩, rfl, rfl⟩; dsimp only at h6 h7 hk4 ⊢) | (refine CallOb.mk [0] (Pick2_ok L k4 hL hk4 [(1, 2), (3, 2), (5, 3), (-1, 2)] (by decide) (by decide)) rfl ⟨Imp.refl _, Imp.fulp rfl, trivial⟩ rfl rfl ?_; rintro _ _ ⟨⟨⟨a, b⟩, k5⟩, ⟨h8, hk5⟩, rfl, rfl⟩; dsimp only at h8 hk5 ⊢) | fail); all_goals try (conv => whnf)
    · have : ∀ f ∈ ([(1, 2), (3, 2), (5, 3), (-1, 2)] : List F), VF f := by decide
      exact ⟨(l ++ [(a, b)], k5), [0, 3], ⟨by simp only [List.length_append, List.length_singleton]; omega, vf_app hv (this _ h8), by assumption⟩, by simp only [List.length_append, List.length_singleton]; omega, by dsimp only; rw [fr2_append, List.length_append, List.length_singleton]; (exact aL)⟩
    · exact ⟨(l ++ [(max u (0 - u), 1)], k4), [0, 3], ⟨by simp only [List.length_append, List.length_singleton]; omega, vf_app hv (vf_int (by omega) (by omega)), by assumption⟩, by simp only [List.length_append, List.length_singleton]; omega, by dsimp only; rw [fr2_append, List.length_append, List.length_singleton]; (exact aL)⟩
    · have : ∀ f ∈ ([(1, 2), (3, 2), (5, 3), (-1, 2)] : List F), VF f := by decide
      exact ⟨(l ++ [(a, b)], k5), [0, 3], ⟨by simp only [List.length_append, List.length_singleton]; omega, vf_app hv (this _ h8), by assumption⟩, by simp only [List.length_append, List.length_singleton]; omega, by dsimp only; rw [fr2_append, List.length_append, List.length_singleton]; (exact aL)⟩
    · exact ⟨(l ++ [(u, 1)], k4), [0, 3], ⟨by simp only [List.length_append, List.length_singleton]; omega, vf_app hv (vf_int (by omega) (by omega)), by assumption⟩, by simp only [List.length_append, List.length_singleton]; omega, by dsimp only; rw [fr2_append, List.length_append, List.length_singleton]; (exact aL)⟩
  · have e : l.length = n := by omega
    (repeat' (conv => whnf); first | refine aC (fun _ => ?_) (fun _ => ?_) | refine aS ?_ | refine aG ?_ | refine aD ?_ | refine aP_Kn2 ?_ | refine aI ?_ | refine aJ ?_ | fail); all_goals try (conv => whnf)
    refine .mk [.fz 1] ?_
    (repeat' (conv => whnf); first | refine aC (fun _ => ?_) (fun _ => ?_) | refine aS ?_ | refine aG ?_ | refine aD ?_ | refine aH ?_ | refine aP_Kn2 ?_ | refine aI ?_ | refine aJ ?_ | fail); all_goals try (conv => whnf)
    exact ⟨(l, k), ⟨e, hv, hk⟩, rfl, Imp.refl _⟩
theorem rws_app (a b : List Rw) : rws (a ++ b) = rws a ++ rws b := by simp [rws]
/- small integers -/
def SF (f : F) : Prop := VF f ∧ f.2 = 1 ∧ -10 ≤ f.1 ∧ f.1 ≤ 10
def RwS (n : Nat) (w : Rw) : Prop := RwOK n w ∧ (∀ f ∈ w.1, SF f) ∧ w.2.2.2 = 1 ∧ -1000 ≤ w.2.2.1 ∧ w.2.2.1 ≤ 1000
def SmlP (p : Pr) : Prop := (∀ f ∈ p.c, SF f) ∧ ∀ w ∈ p.r, (∀ f ∈ w.1, SF f) ∧ w.2.2.2 = 1 ∧ -1000 ≤ w.2.2.1 ∧ w.2.2.1 ≤ 1000
theorem sf_int {n : Int} (h1 : -10 ≤ n) (h2 : n ≤ 10) : SF (n, 1) := ⟨vf_int (by omega) (by omega), rfl, h1, h2⟩
theorem sf_app {l : List F} {x : F} (hv : ∀ f ∈ l, SF f) (hx : SF x) : ∀ f ∈ l ++ [x], SF f := by
  intro f hf
  rcases List.mem_append.1 hf with h | h
  · exact hv f h
  · rw [List.mem_singleton.1 h]; exact hx
theorem rs_app {n : Nat} {l : List Rw} {x : Rw} (hv : ∀ f ∈ l, RwS n f) (hx : RwS n x) : ∀ f ∈ l ++ [x], RwS n f := by
  intro f hf
  rcases List.mem_append.1 hf with h | h
  · exact hv f h
  · rw [List.mem_singleton.1 h]; exact hx
theorem Programme_ok' (L : List Int) (k : Nat) (hL : L.length ≤ 2000) (hk : k ≤ 2000) :
    Ctr Try.prog 9 [.ptr 0 0] [src L k] (fun r o => ∃ x : Pr × Nat, (VP x.1 ∧ x.1.c.length ≤ 4 ∧ x.1.r.length ≤ 4 ∧ x.2 ≤ 2000 ∧ SmlP x.1) ∧ o = [src L x.2] ∧ r = prv x.1) := by
  refine Ctr.impE ?_
  refine fn_intro (E := env 1) tys_ok rfl rfl rfl Try.func9 (by kernel_rfl) rfl (by kernel_rfl) ?_
  (repeat' (conv => whnf); first | refine aC (fun _ => ?_) (fun _ => ?_) | refine aS ?_ | refine aG ?_ | refine aD ?_ | refine aH ?_ | refine aP_Kn2 ?_ | refine aI ?_ | refine aJ ?_ | refine aW (.qs [0, 1, 2] (.l 3 [1] (.l 4 [1] (.l 5 [] (.qs [6] (.l 7 [] .nil .no)) .no) .no) .no)) ?_ | refine aW (.qs [0, 1, 2, 3] (.l 4 [1] (.l 5 [1] (.l 6 [1] (.l 7 [1] (.l 8 [] (.qs [9] (.l 10 [] .nil .no)) .no) .no) .no) .no) .no)) ?_ | fail); all_goals try (conv => whnf)
  refine CallOb.mk [0] (Range_ok L k hL hk 1 4 (by omega) (by omega) (by omega)) rfl (ImpL.refl _) rfl rfl ?_
  rintro _ _ ⟨⟨n, k1⟩, ⟨h4, h5, hk1⟩, rfl, rfl⟩
  dsimp only at h4 h5 hk1 ⊢
  (repeat' (conv => whnf); first | refine aC (fun _ => ?_) (fun _ => ?_) | refine aS ?_ | refine aG ?_ | refine aD ?_ | refine aP_Kn2 ?_ | refine aI ?_ | refine aJ ?_ | refine aW (.qs [0, 1, 2] (.l 3 [1] (.l 4 [1] (.l 5 [] (.qs [6] (.l 7 [] .nil .no)) .no) .no) .no)) ?_ | refine aW (.qs [0, 1, 2, 3] (.l 4 [1] (.l 5 [1] (.l 6 [1] (.l 7 [1] (.l 8 [] (.qs [9] (.l 10 [] .nil .no)) .no) .no) .no) .no) .no)) ?_ | fail); all_goals try (conv => whnf)
  refine .mk [.nb 2 0 2, .nb 2 1 4] ?_
  refine LoopOb.mk (Y := Int × List F × Nat) (st := fun y => ⟨[(4, i64 y.1), (3, .ptr 2 0), (2, .ptr 1 0), (0, .ptr 0 0)], [src L y.2.2, .box [.nil, .nil], .box [.vec 3, .vec 4], .vec 2 (fr2 y.2.1), .vec 4 []]⟩)
    (inv := fun y => 0 ≤ y.1 ∧ y.1 + y.2.1.length ≤ 4 ∧ 1 ≤ y.1 + y.2.1.length ∧ (∀ f ∈ y.2.1, SF f) ∧ y.2.2 ≤ 2000) (fun y => y.1.toNat) (n, [], k1) [0, 1, 2, 3, 4] ⟨by simp only; omega, by simp only [List.length_nil]; omega, by simp only [List.length_nil]; omega, by simp, hk1⟩ (by (exact aL)) ?_
  rintro ⟨i, c, k⟩ ⟨i1, i2, i3, hv, hk⟩
  dsimp only at i1 i2 i3 hv hk ⊢
  have hll := fr_len c
  (repeat' (conv => whnf); first | refine aS ?_ | refine aG ?_ | refine aD ?_ | refine aH ?_ | refine aP_Kn2 ?_ | refine aI ?_ | refine aJ ?_ | refine aW (.qs [0, 1, 2] (.l 3 [1] (.l 4 [1] (.l 5 [] (.qs [6] (.l 7 [] .nil .no)) .no) .no) .no)) ?_ | refine aW (.qs [0, 1, 2, 3] (.l 4 [1] (.l 5 [1] (.l 6 [1] (.l 7 [1] (.l 8 [] (.qs [9] (.l 10 [] .nil .no)) .no) .no) .no) .no) .no)) ?_ | fail); all_goals try (conv => whnf)
  refine CondOb.mk (fun hlt => ?_) (fun hlt => ?_)
  · (repeat' (conv => whnf); first | (refine aC (fun _ => ?_) (fun _ => ?_) <;> try (exfalso; omega)) | refine aS ?_ | refine aG ?_ | refine aD ?_ | refine aH ?_ | refine aP_Kn2 ?_ | refine aI ?_ | refine aJ ?_ | refine aW (.qs [0, 1, 2] (.l 3 [1] (.l 4 [1] (.l 5 [] (.qs [6] (.l 7 [] .nil .no)) .no) .no) .no)) ?_ | refine aW (.qs [0, 1, 2, 3] (.l 4 [1] (.l 5 [1] (.l 6 [1] (.l 7 [1] (.l 8 [] (.qs [9] (.l 10 [] .nil .no)) .no) .no) .no) .no) .no)) ?_ | (refine CallOb.mk [0] (Integer_ok L k hL hk 10 (by omega) (by omega)) rfl (ImpL.refl _) rfl rfl ?_; rintro _ _ ⟨⟨u, k2⟩, ⟨h2, h3, hk2⟩, rfl, rfl⟩; dsimp only at h2 h3 hk2 ⊢) | fail); all_goals try (conv => whnf)
    exact ⟨(i - 1, c ++ [(u, 1)], k2), [0, 1, 2, 6, 4], ⟨by simp only; omega, by simp only [List.length_append, List.length_singleton]; omega, by simp only [List.length_append, List.length_singleton]; omega, sf_app hv (sf_int (by omega) (by omega)), hk2⟩, by simp only; omega, by dsimp only; rw [fr2_append]; (exact aL)⟩
  have hi0 : i = 0 := by omega
  clear hlt
  (repeat' (conv => whnf); first | refine aC (fun _ => ?_) (fun _ => ?_) | refine aS ?_ | refine aG ?_ | refine aD ?_ | refine aP_Kn2 ?_ | refine aI ?_ | refine aJ ?_ | refine aW (.qs [0, 1, 2] (.l 3 [1] (.l 4 [1] (.l 5 [] (.qs [6] (.l 7 [] .nil .no)) .no) .no) .no)) ?_ | refine aW (.qs [0, 1, 2, 3] (.l 4 [1] (.l 5 [1] (.l 6 [1] (.l 7 [1] (.l 8 [] (.qs [9] (.l 10 [] .nil .no)) .no) .no) .no) .no) .no)) ?_ | fail); all_goals try (conv => whnf)
  refine .mk [.fz 3] ?_
  (repeat' (conv => whnf); first | refine aC (fun _ => ?_) (fun _ => ?_) | refine aS ?_ | refine aG ?_ | refine aD ?_ | refine aP_Kn2 ?_ | refine aI ?_ | refine aJ ?_ | refine aW (.qs [0, 1, 2] (.l 3 [1] (.l 4 [1] (.l 5 [] (.qs [6] (.l 7 [] .nil .no)) .no) .no) .no)) ?_ | refine aW (.qs [0, 1, 2, 3] (.l 4 [1] (.l 5 [1] (.l 6 [1] (.l 7 [1] (.l 8 [] (.qs [9] (.l 10 [] .nil .no)) .no) .no) .no) .no) .no)) ?_ | fail); all_goals try (conv => whnf)
  refine CallOb.mk [0] (N_ok L k hL hk 5 (by omega) (by omega)) rfl (ImpL.refl _) rfl rfl ?_
  rintro _ _ ⟨⟨n, k2⟩, ⟨h6, h7, hk2⟩, rfl, rfl⟩
  dsimp only at h6 h7 hk2 ⊢
  (repeat' (conv => whnf); first | refine aC (fun _ => ?_) (fun _ => ?_) | refine aS ?_ | refine aG ?_ | refine aD ?_ | refine aH ?_ | refine aP_Kn2 ?_ | refine aI ?_ | refine aJ ?_ | refine aW (.qs [0, 1, 2] (.l 3 [1] (.l 4 [1] (.l 5 [] (.qs [6] (.l 7 [] .nil .no)) .no) .no) .no)) ?_ | refine aW (.qs [0, 1, 2, 3] (.l 4 [1] (.l 5 [1] (.l 6 [1] (.l 7 [1] (.l 8 [] (.qs [9] (.l 10 [] .nil .no)) .no) .no) .no) .no) .no)) ?_ | fail); all_goals try (conv => whnf)
  have hcn : c.length = i + c.length := by omega
  have hc1 : 1 ≤ c.length := by omega
  have hc4 : c.length ≤ 4 := by omega
  refine LoopOb.mk (Y := Int × List Rw × Nat) (st := fun y => ⟨[(5, i64 y.1), (3, .ptr 2 0), (2, .ptr 1 0), (0, .ptr 0 0)], [src L y.2.2, .box [.nil, .nil], .box [fsl c, .vec 3], .vec 4 (rws y.2.1)]⟩)
    (inv := fun y => 0 ≤ y.1 ∧ y.1 + y.2.1.length ≤ 4 ∧ (∀ w ∈ y.2.1, RwS c.length w) ∧ y.2.2 ≤ 2000) (fun y => y.1.toNat) (n, [], k2) [0, 1, 2, 4] ⟨by simp only; omega, by simp only [List.length_nil]; omega, by simp, hk2⟩ (by (exact aL)) ?_
  rintro ⟨j, rows, q⟩ ⟨j1, j2, hrv, hq⟩
  dsimp only at j1 j2 hrv hq ⊢
  have hrl := rw_len rows
  (repeat' (conv => whnf); first | refine aS ?_ | refine aG ?_ | refine aD ?_ | refine aH ?_ | refine aP_Kn2 ?_ | refine aI ?_ | refine aJ ?_ | refine aW (.qs [0, 1, 2] (.l 3 [1] (.l 4 [1] (.l 5 [] (.qs [6] (.l 7 [] .nil .no)) .no) .no) .no)) ?_ | refine aW (.qs [0, 1, 2, 3] (.l 4 [1] (.l 5 [1] (.l 6 [1] (.l 7 [1] (.l 8 [] (.qs [9] (.l 10 [] .nil .no)) .no) .no) .no) .no) .no)) ?_ | fail); all_goals try (conv => whnf)
  refine CondOb.mk (fun hlt => ?_) (fun hlt => ?_)
  · (repeat' (conv => whnf); first | refine LitOb.ful ?_ | (refine aC (fun _ => ?_) (fun _ => ?_) <;> try (exfalso; omega)) | refine aS ?_ | refine aG ?_ | refine aD ?_ | refine aH ?_ | refine aP_Kn2 ?_ | refine aI ?_ | refine aJ ?_ | refine aW (.qs [0, 1, 2] (.l 3 [1] (.l 4 [1] (.l 5 [] (.qs [6] (.l 7 [] .nil .no)) .no) .no) .no)) ?_ | refine aW (.qs [0, 1, 2, 3] (.l 4 [1] (.l 5 [1] (.l 6 [1] (.l 7 [1] (.l 8 [] (.qs [9] (.l 10 [] .nil .no)) .no) .no) .no) .no) .no)) ?_ | fail); all_goals try (conv => whnf)
    refine CallOb.mk [0] (Range_ok L q hL hq 1 3 (by omega) (by omega) (by omega)) rfl (ImpL.refl _) rfl rfl ?_
    rintro _ _ ⟨⟨s, q1⟩, ⟨s1, s2, hq1⟩, rfl, rfl⟩
    dsimp only at s1 s2 hq1 ⊢
    (repeat' (conv => whnf); first | refine LitOb.ful ?_ | (refine aC (fun _ => ?_) (fun _ => ?_) <;> try (exfalso; omega)) | refine aS ?_ | refine aG ?_ | refine aD ?_ | refine aH ?_ | refine aP_Kn2 ?_ | refine aI ?_ | refine aJ ?_ | refine aW (.qs [0, 1, 2] (.l 3 [1] (.l 4 [1] (.l 5 [] (.qs [6] (.l 7 [] .nil .no)) .no) .no) .no)) ?_ | refine aW (.qs [0, 1, 2, 3] (.l 4 [1] (.l 5 [1] (.l 6 [1] (.l 7 [1] (.l 8 [] (.qs [9] (.l 10 [] .nil .no)) .no) .no) .no) .no) .no)) ?_ | fail); all_goals try (conv => whnf)
    refine CallOb.mk [0] (Pick_ok L q1 hL hq1 [3, 12, 1000] (by decide) (by decide)) rfl ⟨Imp.refl _, Imp.fulp rfl, trivial⟩ rfl rfl ?_
    rintro _ _ ⟨⟨v, q2⟩, ⟨v1, hq2⟩, rfl, rfl⟩
    dsimp only at v1 hq2 ⊢
    have hv0 : 0 ≤ v ∧ v ≤ 1000 := by
      simp only [List.mem_cons, List.not_mem_nil, or_false] at v1
      omega
    (repeat' (conv => whnf); first | (refine aC (fun _ => ?_) (fun _ => ?_) <;> try (exfalso; omega)) | refine aS ?_ | refine aG ?_ | refine aD ?_ | refine aH ?_ | refine aP_Kn2 ?_ | refine aI ?_ | refine aJ ?_ | refine aW (.qs [0, 1, 2] (.l 3 [1] (.l 4 [1] (.l 5 [] (.qs [6] (.l 7 [] .nil .no)) .no) .no) .no)) ?_ | refine aW (.qs [0, 1, 2, 3] (.l 4 [1] (.l 5 [1] (.l 6 [1] (.l 7 [1] (.l 8 [] (.qs [9] (.l 10 [] .nil .no)) .no) .no) .no) .no) .no)) ?_ | fail); all_goals try (conv => whnf)
    refine CallOb.mk [0] (Integer_ok L q2 hL hq2 v (by omega) (by omega)) rfl (ImpL.refl _) rfl rfl ?_
    rintro _ _ ⟨⟨b, q3⟩, ⟨b1, b2, hq3⟩, rfl, rfl⟩
    dsimp only at b1 b2 hq3 ⊢
    (repeat' (conv => whnf); first | refine aC (fun _ => ?_) (fun _ => ?_) | refine aS ?_ | refine aG ?_ | refine aD ?_ | refine aP_Kn2 ?_ | refine aI ?_ | refine aJ ?_ | refine aW (.qs [0, 1, 2] (.l 3 [1] (.l 4 [1] (.l 5 [] (.qs [6] (.l 7 [] .nil .no)) .no) .no) .no)) ?_ | refine aW (.qs [0, 1, 2, 3] (.l 4 [1] (.l 5 [1] (.l 6 [1] (.l 7 [1] (.l 8 [] (.qs [9] (.l 10 [] .nil .no)) .no) .no) .no) .no) .no)) ?_ | fail); all_goals try (conv => whnf)
    refine .mk [.nb 4 0 2] ?_
    refine LoopOb.mk (Y := List F × Nat) (st := fun y => ⟨[(7, i64 y.1.length), (6, .ptr 4 0), (5, i64 j), (3, .ptr 2 0), (2, .ptr 1 0), (0, .ptr 0 0)], [src L y.2, .box [.nil, .nil], .box [fsl c, .vec 3], .vec 4 (rws rows), .box [.vec 5, i64 s, i64 b, i64 1], .vec 2 (fr2 y.1)]⟩)
      (inv := fun y => y.1.length ≤ c.length ∧ (∀ f ∈ y.1, SF f) ∧ y.2 ≤ 2000) (fun y => c.length - y.1.length) ([], q3) [0, 1, 2, 3, 4, 5] ⟨by simp, by simp, hq3⟩ (by (exact aL)) ?_
    rintro ⟨l, k⟩ ⟨hl, hlv, hk⟩
    dsimp only at hl hlv hk ⊢
    have hll2 := fr_len l
    (repeat' (conv => whnf); first | refine aS ?_ | refine aG ?_ | refine aD ?_ | refine aH ?_ | refine aP_Kn2 ?_ | refine aI ?_ | refine aJ ?_ | refine aW (.qs [0, 1, 2] (.l 3 [1] (.l 4 [1] (.l 5 [] (.qs [6] (.l 7 [] .nil .no)) .no) .no) .no)) ?_ | refine aW (.qs [0, 1, 2, 3] (.l 4 [1] (.l 5 [1] (.l 6 [1] (.l 7 [1] (.l 8 [] (.qs [9] (.l 10 [] .nil .no)) .no) .no) .no) .no) .no)) ?_ | fail); all_goals try (conv => whnf)
    refine CondOb.mk (fun hlt2 => ?_) (fun hlt2 => ?_)
    · (repeat' (conv => whnf); first | refine LitOb.ful ?_ | (refine aC (fun _ => ?_) (fun _ => ?_) <;> try (exfalso; omega)) | refine aS ?_ | refine aG ?_ | refine aD ?_ | refine aH ?_ | refine aP_Kn2 ?_ | refine aI ?_ | refine aJ ?_ | refine aW (.qs [0, 1, 2] (.l 3 [1] (.l 4 [1] (.l 5 [] (.qs [6] (.l 7 [] .nil .no)) .no) .no) .no)) ?_ | refine aW (.qs [0, 1, 2, 3] (.l 4 [1] (.l 5 [1] (.l 6 [1] (.l 7 [1] (.l 8 [] (.qs [9] (.l 10 [] .nil .no)) .no) .no) .no) .no) .no)) ?_ | fail); all_goals try (conv => whnf)
      refine CallOb.mk [0] (Pick_ok L k hL hk [0, 1, 2, 10] (by decide) (by decide)) rfl ⟨Imp.refl _, Imp.fulp rfl, trivial⟩ rfl rfl ?_
      rintro _ _ ⟨⟨v', k2⟩, ⟨v2, hk2⟩, rfl, rfl⟩
      dsimp only at v2 hk2 ⊢
      have hv2 : 0 ≤ v' ∧ v' ≤ 10 := by
        simp only [List.mem_cons, List.not_mem_nil, or_false] at v2
        omega
      (repeat' (conv => whnf); first | (refine aC (fun _ => ?_) (fun _ => ?_) <;> try (exfalso; omega)) | refine aS ?_ | refine aG ?_ | refine aD ?_ | refine aH ?_ | refine aP_Kn2 ?_ | refine aI ?_ | refine aJ ?_ | refine aW (.qs [0, 1, 2] (.l 3 [1] (.l 4 [1] (.l 5 [] (.qs [6] (.l 7 [] .nil .no)) .no) .no) .no)) ?_ | refine aW (.qs [0, 1, 2, 3] (.l 4 [1] (.l 5 [1] (.l 6 [1] (.l 7 [1] (.l 8 [] (.qs [9] (.l 10 [] .nil .no)) .no) .no) .no) .no) .no)) ?_ | fail); all_goals try (conv => whnf)
      refine CallOb.mk [0] (Integer_ok L k2 hL hk2 v' (by omega) (by omega)) rfl (ImpL.refl _) rfl rfl ?_
      rintro _ _ ⟨⟨u, k3⟩, ⟨u1, u2, hk3⟩, rfl, rfl⟩
      dsimp only at u1 u2 hk3 ⊢
      (repeat' (conv => whnf); first | (refine aC (fun _ => ?_) (fun _ => ?_) <;> try (exfalso; omega)) | refine aS ?_ | refine aG ?_ | refine aD ?_ | refine aH ?_ | refine aP_Kn2 ?_ | refine aI ?_ | refine aJ ?_ | refine aW (.qs [0, 1, 2] (.l 3 [1] (.l 4 [1] (.l 5 [] (.qs [6] (.l 7 [] .nil .no)) .no) .no) .no)) ?_ | refine aW (.qs [0, 1, 2, 3] (.l 4 [1] (.l 5 [1] (.l 6 [1] (.l 7 [1] (.l 8 [] (.qs [9] (.l 10 [] .nil .no)) .no) .no) .no) .no) .no)) ?_ | fail); all_goals try (conv => whnf)
      exact ⟨(l ++ [(u, 1)], k3), [0, 1, 2, 3, 4, 7], ⟨by simp only [List.length_append, List.length_singleton]; omega, sf_app hlv (sf_int (by omega) (by omega)), hk3⟩, by simp only [List.length_append, List.length_singleton]; omega, by dsimp only; rw [fr2_append, List.length_append, List.length_singleton]; (exact aL)⟩
    · have e : l.length = c.length := by omega
      (repeat' (conv => whnf); first | refine aC (fun _ => ?_) (fun _ => ?_) | refine aS ?_ | refine aG ?_ | refine aD ?_ | refine aP_Kn2 ?_ | refine aI ?_ | refine aJ ?_ | refine aW (.qs [0, 1, 2] (.l 3 [1] (.l 4 [1] (.l 5 [] (.qs [6] (.l 7 [] .nil .no)) .no) .no) .no)) ?_ | refine aW (.qs [0, 1, 2, 3] (.l 4 [1] (.l 5 [1] (.l 6 [1] (.l 7 [1] (.l 8 [] (.qs [9] (.l 10 [] .nil .no)) .no) .no) .no) .no) .no)) ?_ | fail); all_goals try (conv => whnf)
      refine .mk [.fz 5] ?_
      (repeat' (conv => whnf); first | refine aC (fun _ => ?_) (fun _ => ?_) | refine aS ?_ | refine aG ?_ | refine aD ?_ | refine aH ?_ | refine aP_Kn2 ?_ | refine aI ?_ | refine aJ ?_ | refine aW (.qs [0, 1, 2] (.l 3 [1] (.l 4 [1] (.l 5 [] (.qs [6] (.l 7 [] .nil .no)) .no) .no) .no)) ?_ | refine aW (.qs [0, 1, 2, 3] (.l 4 [1] (.l 5 [1] (.l 6 [1] (.l 7 [1] (.l 8 [] (.qs [9] (.l 10 [] .nil .no)) .no) .no) .no) .no) .no)) ?_ | fail); all_goals try (conv => whnf)
      exact ⟨(j - 1, rows ++ [(l, s, (b, 1))], k), [0, 1, 2, 7], ⟨by simp only; omega, by simp only [List.length_append, List.length_singleton]; omega, rs_app hrv ⟨⟨e, by simp only; omega, by simp only; omega, fun f hf => (hlv f hf).1, vf_int (by omega) (by omega)⟩, hlv, rfl, by simp only; omega, by simp only; omega⟩, hk⟩, by simp only; omega, by dsimp only; rw [rws_app]; (exact aL)⟩
  · (repeat' (conv => whnf); first | refine aC (fun _ => ?_) (fun _ => ?_) | refine aS ?_ | refine aG ?_ | refine aD ?_ | refine aP_Kn2 ?_ | refine aI ?_ | refine aJ ?_ | refine aW (.qs [0, 1, 2] (.l 3 [1] (.l 4 [1] (.l 5 [] (.qs [6] (.l 7 [] .nil .no)) .no) .no) .no)) ?_ | refine aW (.qs [0, 1, 2, 3] (.l 4 [1] (.l 5 [1] (.l 6 [1] (.l 7 [1] (.l 8 [] (.qs [9] (.l 10 [] .nil .no)) .no) .no) .no) .no) .no)) ?_ | fail); all_goals try (conv => whnf)
    refine .mk [.fz 3] ?_
    (repeat' (conv => whnf); first | refine aC (fun _ => ?_) (fun _ => ?_) | refine aS ?_ | refine aG ?_ | refine aD ?_ | refine aH ?_ | refine aP_Kn2 ?_ | refine aI ?_ | refine aJ ?_ | refine aW (.qs [0, 1, 2] (.l 3 [1] (.l 4 [1] (.l 5 [] (.qs [6] (.l 7 [] .nil .no)) .no) .no) .no)) ?_ | refine aW (.qs [0, 1, 2, 3] (.l 4 [1] (.l 5 [1] (.l 6 [1] (.l 7 [1] (.l 8 [] (.qs [9] (.l 10 [] .nil .no)) .no) .no) .no) .no) .no)) ?_ | fail); all_goals try (conv => whnf)
    exact ⟨(⟨c, rows⟩, q), ⟨⟨by omega, by simp only; omega, by simp only; omega, fun f hf => (hv f hf).1, fun w hw => (hrv w hw).1⟩, hc4, by simp only; omega, hq, hv, fun w hw => (hrv w hw).2⟩, rfl, Imp.refl _⟩
end Go.Proofs.Ytbdahmfjeklgbaa
