/-
  A text of the proofs of this seat: lemmas that the statements' proofs use; it states nothing of the program by itself beyond the contracts that its theorems bear. Conditions: those that stand in each theorem. Its short name: Cx.
-/
import Derived.Test.YtabbnnfobjifiaaC3
import Derived.Test.YtabbnnfobjifiaaT6
set_option linter.unusedVariables false
set_option linter.unusedSimpArgs false
namespace Go.Proofs.Ytabbnnfobjifiaa
open Go.Sx Go.Pk Go.Cv Go.St
set_option maxRecDepth 8000
set_option maxHeartbeats 2000000
--APPX pks_len, Go.Cv.vals_len
def RchB (f : C3) (v : Int) (x : Int × Bool) : Prop := (∃ k : Nat, k ≤ 12100000 ∧ rch f v = some k ∧ x = ((k : Int), true)) ∨ (rch f v = none ∧ x = (0, false))
theorem aP_Cx {A B K : Prop} (k : K) (a : A := by (simp only [zA, zT, zD, zC, zN, ints_len, zR, pks_len, Go.Cv.vals_len]; omega)) (b : B := by (simp only [zA, zT, zD, zC, zN, ints_len, zR, pks_len, Go.Cv.vals_len]; omega)) : (A ∧ B) ∧ K := ⟨⟨a, b⟩, k⟩
theorem reachB_ok (f : C3) (vf : VC f) (v : Int) (hv : 0 ≤ v ∧ v ≤ 100000) : Ctr Try.prog 89 [crv f.1 f.2.1 f.2.2, i64 v] [] (fun r o => ∃ x : Int × Bool, RchB f v x ∧ o = [] ∧ r = .tup [i64 x.1, .bl x.2]) := by
  refine Ctr.impE ?_
  refine fn_intro (E := env 0) tys_ok rfl rfl rfl Try.func89 (by kernel_rfl) rfl (by kernel_rfl) ?_
  have n1 := vf.n1
  have n2 := vf.n2
  have p1 := vf.p1
  have p2 := vf.p2
  have pn := vf.pn
  have q0 := vf.q0
  have q1 := vf.q1
  have hil := ints_len f.1
  have hcg : ∀ j, j < f.1.length → cv f j = f.1.getD j 0 := fun j hj => by unfold cv; exact val_lt hj
  (repeat' (conv => whnf); first | (refine aC (fun _ => ?_) (fun _ => ?_) <;> try (exfalso; omega)) | refine aS ?_ | refine aG ?_ | refine aD ?_ | refine aH ?_ | refine aP_Cx ?_ | refine aI ?_ | refine aJ ?_ | refine aW (.qs [0, 1, 2, 3, 4, 5, 6] .nil) ?_ | refine aW (.qs [0, 1, 2, 3, 4, 5, 6, 7, 8, 9, 10, 11, 12, 13, 14, 15] .nil) ?_ | fail); all_goals try (conv => whnf)
  refine LoopOb.mk (Y := Nat) (st := fun t => ⟨[(15, i64 t), (14, i64 (ints f.1).length), (13, .psl 1 (ints f.1)), (2, .ptr 0 0), (1, i64 v)], [.box [.psl 1 (ints f.1), i64 f.2.1, i64 f.2.2]]⟩)
    (inv := fun t => t ≤ f.1.length ∧ ∀ j, j < t → cv f j < v) (fun t => f.1.length - t) 0 [0] ⟨by omega, fun j hj => by omega⟩ (by (exact aL)) ?_
  rintro t ⟨ht, hj⟩
  (repeat' (conv => whnf); first | refine aS ?_ | refine aG ?_ | refine aD ?_ | refine aH ?_ | refine aP_Cx ?_ | refine aI ?_ | refine aJ ?_ | refine aW (.qs [0, 1, 2, 3, 4, 5, 6] .nil) ?_ | refine aW (.qs [0, 1, 2, 3, 4, 5, 6, 7, 8, 9, 10, 11, 12, 13, 14, 15] .nil) ?_ | fail); all_goals try (conv => whnf)
  refine CondOb.mk (fun hlt => ?_) (fun hlt => ?_)
  · have htn : t < f.1.length := by omega
    have hg := ints_get htn
    have hc := hcg t htn
    have hv1 := vf.v t htn
    have hvb : 0 ≤ f.1.getD t 0 ∧ f.1.getD t 0 ≤ 4611686018427387904 := by
      rcases hv1 with h | h
      · rw [h]; decide
      · omega
    rw [← hc] at hg hvb
    have hs1 : v ≤ cv f t → rch f v = some t := fun h => rch_some (by omega) h hj
    have hs2 : ¬v ≤ cv f t → ∀ j, j < t + 1 → cv f j < v := fun h j hjt => by
      by_cases e : j = t
      · subst e; omega
      · exact hj j (by omega)
    generalize cv f t = w at *
    (repeat' (conv => whnf); first | refine ⟨t, _, rfl, hg, ?_⟩ | (refine aC (fun _ => ?_) (fun _ => ?_) <;> try (exfalso; omega)) | refine aS ?_ | refine aG ?_ | refine aD ?_ | refine aH ?_ | refine aP_Cx ?_ | refine aI ?_ | refine aJ ?_ | refine aW (.qs [0, 1, 2, 3, 4, 5, 6] .nil) ?_ | refine aW (.qs [0, 1, 2, 3, 4, 5, 6, 7, 8, 9, 10, 11, 12, 13, 14, 15] .nil) ?_ | fail); all_goals try (conv => whnf)
    · exact ⟨((t : Int), true), .inl ⟨t, by omega, hs1 (by assumption), rfl⟩, rfl, Imp.refl _⟩
    · exact ⟨t + 1, [0], ⟨by omega, hs2 (by assumption)⟩, by omega, by (exact aL)⟩
  · have e : t = f.1.length := by omega
    subst e
    have hV : cv f (f.1.length - 1) < v := hj _ (by omega)
    have hVn := cv_nonneg vf (f.1.length - 1)
    have hg := ints_get (l := f.1) (j := f.1.length - 1) (by omega)
    rw [← hcg _ (by omega)] at hg
    have hnone : f.2.2 = 0 → rch f v = none := fun h => rch_none fun i => by
      by_cases hi : i < f.1.length
      · exact hj i hi
      · rw [cv_flat vf h i (by omega)]; exact hV
    have hk := fun h : 1 ≤ f.2.2 => reach_k (q := f.2.2) (V := cv f (f.1.length - 1)) (v := v) h hV rfl
    have e1 : 1 ≤ f.2.2 → (v - cv f (f.1.length - 1) + f.2.2 - 1).tdiv f.2.2 = (v - cv f (f.1.length - 1) + f.2.2 - 1) / f.2.2 := fun h => Int.tdiv_eq_ediv_of_nonneg (by omega)
    have hper := fun k : Nat => (vf.per.mul k) (f.1.length - 1) (by omega)
    have hper2 : ∀ k : Nat, cv f (f.1.length - 1 + k * f.2.1) = cv f (f.1.length - 1) + k * f.2.2 := hper
    clear hper
    have hmono := fun (s t : Nat) (h : s ≤ t) => vf.cvle h
    generalize hVe : cv f (f.1.length - 1) = V at *
    by_cases hq : f.2.2 = 0
    · have hN := hnone hq
      rw [hq]
      (repeat' (conv => whnf); first | refine ⟨f.1.length - 1, _, by omega, hg, ?_⟩ | (refine aC (fun _ => ?_) (fun _ => ?_) <;> try (exfalso; omega)) | refine aS ?_ | refine aG ?_ | refine aD ?_ | refine aH ?_ | refine aP_Cx ?_ | refine aI ?_ | refine aJ ?_ | refine aW (.qs [0, 1, 2, 3, 4, 5, 6] .nil) ?_ | refine aW (.qs [0, 1, 2, 3, 4, 5, 6, 7, 8, 9, 10, 11, 12, 13, 14, 15] .nil) ?_ | fail); all_goals try (conv => whnf)
      exact ⟨(0, false), .inr ⟨hN, rfl⟩, rfl, Imp.refl _⟩
    · obtain ⟨k1, k2, k3, k4⟩ := hk (by omega)
      have e := e1 (by omega)
      clear hk e1 hnone
      generalize (v - V + f.2.2 - 1) / f.2.2 = k at *
      obtain ⟨k, rfl⟩ : ∃ n : Nat, k = n + 1 := ⟨(k - 1).toNat, by omega⟩
      have hkp : k * f.2.1 ≤ 100000 * 120 := Nat.mul_le_mul (by omega) p2
      have h1 := hper2 k
      have h2 := hper2 (k + 1)
      rw [Int.add_sub_cancel] at k2
      have hkp2 : (k + 1) * f.2.1 = k * f.2.1 + f.2.1 := by rw [Nat.add_mul, Nat.one_mul]
      rw [hkp2] at h2
      have hb : ((k + 1 : Nat) : Int) * f.2.2 = ((k : Int) + 1) * f.2.2 := by push_cast; rfl
      rw [hb] at h2
      have hkc : ((k : Int) + 1 - 1) * f.2.1 = ((k * f.2.1 : Nat) : Int) := by rw [Int.add_sub_cancel]; push_cast; rfl
      have hlow : ∀ j, j < f.1.length + k * f.2.1 → cv f j < v := fun j hjl => by
        have := hmono j (f.1.length - 1 + k * f.2.1) (by omega)
        omega
      have hdiv : ∀ m, m ≤ f.2.1 - 1 → (k * f.2.1 + m) / f.2.1 = k := fun m hm => by
        rw [Nat.mul_comm, Nat.mul_add_div (by have := vf.p1; omega), Nat.div_eq_of_lt (by have := vf.p1; omega)]; omega
      have hgr : ((k : Int) + 1) * f.2.2 ≤ 4600000000000000000 := by
        have := (bd_of vf).q1
        rw [Int.add_mul, Int.one_mul]; omega
      clear hper2 hb hkp2
      generalize k * f.2.1 = K at *
      (repeat' (conv => whnf); first | refine ⟨f.1.length - 1, _, by omega, hg, ?_⟩ | (refine aC (fun _ => ?_) (fun _ => ?_) <;> try (exfalso; omega)) | refine aS ?_ | refine aG ?_ | refine aD ?_ | refine aH ?_ | refine aP_Cx ?_ | refine aI ?_ | refine aJ ?_ | refine aW (.qs [0, 1, 2, 3, 4, 5, 6] .nil) ?_ | refine aW (.qs [0, 1, 2, 3, 4, 5, 6, 7, 8, 9, 10, 11, 12, 13, 14, 15] .nil) ?_ | fail); all_goals try (conv => whnf)
      refine ⟨hq, ?_⟩
      rw [e]
      (repeat' (conv => whnf); first | (refine aC (fun _ => ?_) (fun _ => ?_) <;> try (exfalso; omega)) | refine aS ?_ | refine aG ?_ | refine aD ?_ | refine aH ?_ | refine aP_Cx ?_ | refine aI ?_ | refine aJ ?_ | refine aW (.qs [0, 1, 2, 3, 4, 5, 6] .nil) ?_ | refine aW (.qs [0, 1, 2, 3, 4, 5, 6, 7, 8, 9, 10, 11, 12, 13, 14, 15] .nil) ?_ | fail); all_goals try (conv => whnf)
      refine LoopOb.mk (Y := Nat) (st := fun m => ⟨[(11, i64 (f.1.length + K + m : Nat)), (2, .ptr 0 0), (1, i64 v)], [.box [.psl 1 (ints f.1), i64 f.2.1, i64 f.2.2]]⟩)
        (inv := fun m => m ≤ f.2.1 - 1 ∧ ∀ j, j < f.1.length + K + m → cv f j < v) (fun m => f.2.1 - m) 0 [0] ⟨by omega, hlow⟩ (by (exact aL)) ?_
      rintro m ⟨hm, hmj⟩
      have cA := WAtB_ok f.1 f.2.1 f.2.2 (f.1.length + K + m : Nat) (bd_of vf) (by omega) (by omega) (by
        rw [Int.toNat_natCast, show f.1.length + K + m - f.1.length = K + m by omega, hdiv m hm]; push_cast; exact hgr)
      rw [show val f.1 f.2.1 f.2.2 ((f.1.length + K + m : Nat) : Int).toNat = cv f (f.1.length + K + m) by rw [Int.toNat_natCast]; rfl] at cA
      have hs1 : ¬cv f (f.1.length + K + m) < v → rch f v = some (f.1.length + K + m) := fun h => rch_some (by omega) (by omega) hmj
      have hs2 : cv f (f.1.length + K + m) < v → m + 1 ≤ f.2.1 - 1 ∧ ∀ j, j < f.1.length + K + (m + 1) → cv f j < v := fun h => ⟨by
        apply Classical.byContradiction
        intro h3
        have h4 := hmono (f.1.length - 1 + (K + f.2.1)) (f.1.length + K + m) (by omega)
        omega, fun j hjl => by
        by_cases e : j = f.1.length + K + m
        · subst e; exact h
        · exact hmj j (by omega)⟩
      clear hmj hlow hj hmono h1 h2
      generalize cv f (f.1.length + K + m) = w at *
      (repeat' (conv => whnf); first | (refine aC (fun _ => ?_) (fun _ => ?_) <;> try (exfalso; omega)) | refine aS ?_ | refine aG ?_ | refine aD ?_ | refine aH ?_ | refine aP_Cx ?_ | refine aI ?_ | refine aJ ?_ | refine aW (.qs [0, 1, 2, 3, 4, 5, 6] .nil) ?_ | refine aW (.qs [0, 1, 2, 3, 4, 5, 6, 7, 8, 9, 10, 11, 12, 13, 14, 15] .nil) ?_ | (refine aK [] cA ?_) | fail); all_goals try (conv => whnf)
      all_goals first
        | exact ⟨m + 1, [0], hs2 (by assumption), by omega, by (exact aL)⟩
        | exact ⟨(((f.1.length + K + m : Nat) : Int), true), .inl ⟨_, by omega, hs1 (by assumption), rfl⟩, rfl, Imp.refl _⟩
        | trace_state
theorem ReachB_ok (f : C3) (vf : VC f) (v : Int) (hv : 0 ≤ v ∧ v ≤ 100000) : Ctr Try.prog 73 [crv f.1 f.2.1 f.2.2, i64 v] [] (fun r o => ∃ x : Int × Bool, RchB f v x ∧ o = [] ∧ r = .tup [i64 x.1, .bl x.2, i64 0]) := by
  refine Ctr.impE ?_
  refine fn_intro (E := env 0) tys_ok rfl rfl rfl Try.func73 (by kernel_rfl) rfl (by kernel_rfl) ?_
  have hV : ValidP f.1 f.2.1 f.2.2 := vf.valid
  (repeat' (conv => whnf); first | (refine aC (fun _ => ?_) (fun _ => ?_) <;> try (exfalso; omega)) | refine aS ?_ | refine aG ?_ | refine aD ?_ | refine aH ?_ | refine aP_Cx ?_ | refine aI ?_ | refine aJ ?_ | (refine aK [] (CValid_ok f.1 f.2.1 f.2.2 (by have := vf.n2; omega)) ?_) | fail); all_goals try (conv => whnf)
  · exact absurd hV (by assumption)
  · refine CallOb.mk [] (reachB_ok f vf v hv) rfl (ImpL.refl _) rfl rfl ?_
    rintro _ _ ⟨x, hx, rfl, rfl⟩
    (repeat' (conv => whnf); first | (refine aC (fun _ => ?_) (fun _ => ?_) <;> try (exfalso; omega)) | refine aS ?_ | refine aG ?_ | refine aD ?_ | refine aH ?_ | refine aP_Cx ?_ | refine aI ?_ | refine aJ ?_ | fail); all_goals try (conv => whnf)
    exact ⟨x, hx, rfl, Imp.refl _⟩
end Go.Proofs.Ytabbnnfobjifiaa
