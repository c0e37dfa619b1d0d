/-
  A text of the proofs of this seat: lemmas that the statements' proofs use; it states nothing of the program by itself beyond the contracts that its theorems bear. Conditions: those that stand in each theorem. Its short name: C3.
-/
import Derived.Test.YtabbnnfobjifiaaC2
set_option linter.unusedVariables false
set_option linter.unusedSimpArgs false
namespace Go.Proofs.Ytabbnnfobjifiaa
open Go.Sx Go.Pk Go.Cv Go.St
set_option maxRecDepth 8000
set_option maxHeartbeats 2000000
--APPX pks_len, Go.Cv.vals_len
theorem cv_flat {f : C3} (vf : VC f) (hq : f.2.2 = 0) (t : Nat) (ht : f.1.length - 1 ≤ t) : cv f t = cv f (f.1.length - 1) := by
  have hp := vf.per
  have n1 := vf.n1
  have p1 := vf.p1
  have pn := vf.pn
  have h1 := vf.cvle (s := f.1.length - 1) (t := t) ht
  have h2 : cv f (f.1.length - 1 + (t + 1) * f.2.1) = cv f (f.1.length - 1) + ((t + 1 : Nat) : Int) * f.2.2 := hp.mul (t + 1) (f.1.length - 1) (by omega)
  rw [hq, Int.mul_zero, Int.add_zero] at h2
  have h3 := vf.cvle (s := t) (t := f.1.length - 1 + (t + 1) * f.2.1) (by
    have : (t + 1) * 1 ≤ (t + 1) * f.2.1 := Nat.mul_le_mul_left _ p1
    omega)
  omega
/- how many periods are needed -/
theorem reach_k {v V q : Int} (hq : 1 ≤ q) (hv : V < v) {k : Int} (hk : k = (v - V + q - 1) / q) : 1 ≤ k ∧ V + (k - 1) * q < v ∧ v ≤ V + k * q ∧ k ≤ v - V := by
  have h1 := Int.mul_ediv_add_emod (v - V + q - 1) q
  have h2 := Int.emod_nonneg (v - V + q - 1) (show q ≠ 0 by omega)
  have h3 := Int.emod_lt_of_pos (v - V + q - 1) (show 0 < q by omega)
  rw [← hk] at h1
  have e : (k - 1) * q = q * k - q := by rw [Int.sub_mul, Int.one_mul, Int.mul_comm]
  have e2 : k * q = q * k := Int.mul_comm _ _
  have h4 : 1 ≤ k := by
    apply Classical.byContradiction
    intro h
    have : q * k ≤ q * 0 := Int.mul_le_mul_of_nonneg_left (by omega) (by omega)
    omega
  refine ⟨h4, by omega, by omega, ?_⟩
  have h5 : 1 * (k - 1) ≤ q * (k - 1) := Int.mul_le_mul_of_nonneg_right (by omega) (by omega)
  have h6 : q * (k - 1) = q * k - q := by rw [Int.mul_sub, Int.mul_one]
  omega
/- what Reach says -/
def RchR (f : C3) (v : Int) (x : Int × Bool) : Prop := (∃ k : Nat, k ≤ 1048000 ∧ rch f v = some k ∧ x = ((k : Int), true)) ∨ (rch f v = none ∧ x = (0, false))
theorem reach_ok (f : C3) (vf : VC f) (v : Int) (hv : 0 ≤ v ∧ v ≤ 8000) : Ctr Try.prog 89 [crv f.1 f.2.1 f.2.2, i64 v] [] (fun r o => ∃ x : Int × Bool, RchR f v x ∧ o = [] ∧ r = .tup [i64 x.1, .bl x.2]) := by
  refine Ctr.impE ?_
  refine fn_intro (E := env 0) tys_ok rfl rfl rfl Try.func89 (by kernel_rfl) rfl (by kernel_rfl) ?_
  have n1 := vf.n1
  have n2 := vf.n2
  have p1 := vf.p1
  have p2 := vf.p2
  have pn := vf.pn
  have q0 := vf.q0
  have q1 := vf.q1
  have hil := ints_len f.1
  have hcg : ∀ j, j < f.1.length → cv f j = f.1.getD j 0 := fun j hj => by unfold cv; exact val_lt hj
  repeat' (conv => whnf
           first | (refine CondOb.mk (fun _ => ?_) (fun _ => ?_) <;> first | (exfalso; omega) | skip) | refine ArOb.fits (by first | omega | (simp only [ints_len] at *; omega)) ?_ | refine LitOb.vec ?_ | refine MakeOb.vec ?_ | refine AllocOb.box ?_ | refine AsgOb.vec ?_ | refine AggOb.mk (by decide +kernel) ?_ | refine ArU.fits (by first | omega | (simp only [ints_len] at *; omega)) ?_ | refine ArB.fits (by first | omega | (simp only [ints_len] at *; omega)) ?_ | refine CutOb.split ?_ | refine Gh.mk [] ?_ | refine And.intro (And.intro (by (simp only [List.length_append, List.length_take, List.length_drop, List.length_cons, List.length_nil, ints_len, List.length_replicate, pks_len, Go.Cv.vals_len]; omega)) (by (simp only [List.length_append, List.length_take, List.length_drop, List.length_cons, List.length_nil, ints_len, List.length_replicate, pks_len, Go.Cv.vals_len]; omega))) ?_ | refine ⟨_, _, rfl, ints_get (by first | omega | (simp only [ints_len] at *; omega)), ?_⟩ | refine ⟨_, _, (Int.toNat_of_nonneg (by first | omega | (simp only [ints_len] at *; omega))).symm, ints_get (by first | omega | (simp only [ints_len] at *; omega)), ?_⟩ | refine DrawOb.mk [] (.qs [0, 1, 2, 3, 4, 5, 6] .nil) (by decide +kernel) ?_ | refine DrawOb.mk [] (.qs [0, 1, 2, 3, 4, 5, 6, 7, 8, 9, 10, 11, 12, 13, 14, 15] .nil) (by decide +kernel) ?_ | fail)
  all_goals try (conv => whnf)
  refine LoopOb.mk (Y := Nat) (st := fun t => ⟨[(15, i64 t), (14, i64 (ints f.1).length), (13, .psl 1 (ints f.1)), (2, .ptr 0 0), (1, i64 v)], [.box [.psl 1 (ints f.1), i64 f.2.1, i64 f.2.2]]⟩)
    (inv := fun t => t ≤ f.1.length ∧ ∀ j, j < t → cv f j < v) (fun t => f.1.length - t) 0 [0] ⟨by omega, fun j hj => by omega⟩ (by (refine Le.mk (by kernel_rfl) ?_ ?_ <;> repeat' (first | exact True.intro | refine And.intro ?_ ?_ | exact Imp.refl _ | exact Imp.any _ | exact Imp.num (by first | omega | simp only [ints_len]) | exact rfl | exact Imp.bl (by simp)))) ?_
  rintro t ⟨ht, hj⟩
  repeat' (conv => whnf
           first | refine ArOb.fits (by first | omega | (simp only [ints_len] at *; omega)) ?_ | refine LitOb.vec ?_ | refine MakeOb.vec ?_ | refine AllocOb.box ?_ | refine AsgOb.vec ?_ | refine AggOb.mk (by decide +kernel) ?_ | refine ArU.fits (by first | omega | (simp only [ints_len] at *; omega)) ?_ | refine ArB.fits (by first | omega | (simp only [ints_len] at *; omega)) ?_ | refine CutOb.split ?_ | refine Gh.mk [] ?_ | refine And.intro (And.intro (by (simp only [List.length_append, List.length_take, List.length_drop, List.length_cons, List.length_nil, ints_len, List.length_replicate, pks_len, Go.Cv.vals_len]; omega)) (by (simp only [List.length_append, List.length_take, List.length_drop, List.length_cons, List.length_nil, ints_len, List.length_replicate, pks_len, Go.Cv.vals_len]; omega))) ?_ | refine ⟨_, _, rfl, ints_get (by first | omega | (simp only [ints_len] at *; omega)), ?_⟩ | refine ⟨_, _, (Int.toNat_of_nonneg (by first | omega | (simp only [ints_len] at *; omega))).symm, ints_get (by first | omega | (simp only [ints_len] at *; omega)), ?_⟩ | refine DrawOb.mk [] (.qs [0, 1, 2, 3, 4, 5, 6] .nil) (by decide +kernel) ?_ | refine DrawOb.mk [] (.qs [0, 1, 2, 3, 4, 5, 6, 7, 8, 9, 10, 11, 12, 13, 14, 15] .nil) (by decide +kernel) ?_ | fail)
  all_goals try (conv => whnf)
  refine CondOb.mk (fun hlt => ?_) (fun hlt => ?_)
  · have htn : t < f.1.length := by omega
    have hg := ints_get htn
    have hc := hcg t htn
    have hv1 := vf.v t htn
    have hvb : 0 ≤ f.1.getD t 0 ∧ f.1.getD t 0 ≤ 4611686018427387904 := by
      rcases hv1 with h | h
      · rw [h]; decide
      · omega
    rw [← hc] at hg hvb
    have hs1 : v ≤ cv f t → rch f v = some t := fun h => rch_some (by omega) h hj
    have hs2 : ¬v ≤ cv f t → ∀ j, j < t + 1 → cv f j < v := fun h j hjt => by
      by_cases e : j = t
      · subst e; omega
      · exact hj j (by omega)
    generalize cv f t = w at *
    repeat' (conv => whnf
             first | refine ⟨t, _, rfl, hg, ?_⟩ | (refine CondOb.mk (fun _ => ?_) (fun _ => ?_) <;> first | (exfalso; omega) | skip) | refine ArOb.fits (by first | omega | (simp only [ints_len] at *; omega)) ?_ | refine LitOb.vec ?_ | refine MakeOb.vec ?_ | refine AllocOb.box ?_ | refine AsgOb.vec ?_ | refine AggOb.mk (by decide +kernel) ?_ | refine ArU.fits (by first | omega | (simp only [ints_len] at *; omega)) ?_ | refine ArB.fits (by first | omega | (simp only [ints_len] at *; omega)) ?_ | refine CutOb.split ?_ | refine Gh.mk [] ?_ | refine And.intro (And.intro (by (simp only [List.length_append, List.length_take, List.length_drop, List.length_cons, List.length_nil, ints_len, List.length_replicate, pks_len, Go.Cv.vals_len]; omega)) (by (simp only [List.length_append, List.length_take, List.length_drop, List.length_cons, List.length_nil, ints_len, List.length_replicate, pks_len, Go.Cv.vals_len]; omega))) ?_ | refine ⟨_, _, rfl, ints_get (by first | omega | (simp only [ints_len] at *; omega)), ?_⟩ | refine ⟨_, _, (Int.toNat_of_nonneg (by first | omega | (simp only [ints_len] at *; omega))).symm, ints_get (by first | omega | (simp only [ints_len] at *; omega)), ?_⟩ | refine DrawOb.mk [] (.qs [0, 1, 2, 3, 4, 5, 6] .nil) (by decide +kernel) ?_ | refine DrawOb.mk [] (.qs [0, 1, 2, 3, 4, 5, 6, 7, 8, 9, 10, 11, 12, 13, 14, 15] .nil) (by decide +kernel) ?_ | fail)
    all_goals try (conv => whnf)
    · exact ⟨((t : Int), true), .inl ⟨t, by omega, hs1 (by assumption), rfl⟩, rfl, Imp.refl _⟩
    · exact ⟨t + 1, [0], ⟨by omega, hs2 (by assumption)⟩, by omega, by (refine Le.mk (by kernel_rfl) ?_ ?_ <;> repeat' (first | exact True.intro | refine And.intro ?_ ?_ | exact Imp.refl _ | exact Imp.any _ | exact Imp.num (by first | omega | simp only [ints_len]) | exact rfl | exact Imp.bl (by simp)))⟩
  · have e : t = f.1.length := by omega
    subst e
    have hV : cv f (f.1.length - 1) < v := hj _ (by omega)
    have hVn := cv_nonneg vf (f.1.length - 1)
    have hg := ints_get (l := f.1) (j := f.1.length - 1) (by omega)
    rw [← hcg _ (by omega)] at hg
    have hnone : f.2.2 = 0 → rch f v = none := fun h => rch_none fun i => by
      by_cases hi : i < f.1.length
      · exact hj i hi
      · rw [cv_flat vf h i (by omega)]; exact hV
    have hk := fun h : 1 ≤ f.2.2 => reach_k (q := f.2.2) (V := cv f (f.1.length - 1)) (v := v) h hV rfl
    have e1 : 1 ≤ f.2.2 → (v - cv f (f.1.length - 1) + f.2.2 - 1).tdiv f.2.2 = (v - cv f (f.1.length - 1) + f.2.2 - 1) / f.2.2 := fun h => Int.tdiv_eq_ediv_of_nonneg (by omega)
    have hper := fun k : Nat => (vf.per.mul k) (f.1.length - 1) (by omega)
    have hper2 : ∀ k : Nat, cv f (f.1.length - 1 + k * f.2.1) = cv f (f.1.length - 1) + k * f.2.2 := hper
    clear hper
    have hmono := fun (s t : Nat) (h : s ≤ t) => vf.cvle h
    generalize hVe : cv f (f.1.length - 1) = V at *
    by_cases hq : f.2.2 = 0
    · have hN := hnone hq
      rw [hq]
      repeat' (conv => whnf
               first | refine ⟨f.1.length - 1, _, by omega, hg, ?_⟩ | (refine CondOb.mk (fun _ => ?_) (fun _ => ?_) <;> first | (exfalso; omega) | skip) | refine ArOb.fits (by first | omega | (simp only [ints_len] at *; omega)) ?_ | refine LitOb.vec ?_ | refine MakeOb.vec ?_ | refine AllocOb.box ?_ | refine AsgOb.vec ?_ | refine AggOb.mk (by decide +kernel) ?_ | refine ArU.fits (by first | omega | (simp only [ints_len] at *; omega)) ?_ | refine ArB.fits (by first | omega | (simp only [ints_len] at *; omega)) ?_ | refine CutOb.split ?_ | refine Gh.mk [] ?_ | refine And.intro (And.intro (by (simp only [List.length_append, List.length_take, List.length_drop, List.length_cons, List.length_nil, ints_len, List.length_replicate, pks_len, Go.Cv.vals_len]; omega)) (by (simp only [List.length_append, List.length_take, List.length_drop, List.length_cons, List.length_nil, ints_len, List.length_replicate, pks_len, Go.Cv.vals_len]; omega))) ?_ | refine ⟨_, _, rfl, ints_get (by first | omega | (simp only [ints_len] at *; omega)), ?_⟩ | refine ⟨_, _, (Int.toNat_of_nonneg (by first | omega | (simp only [ints_len] at *; omega))).symm, ints_get (by first | omega | (simp only [ints_len] at *; omega)), ?_⟩ | refine DrawOb.mk [] (.qs [0, 1, 2, 3, 4, 5, 6] .nil) (by decide +kernel) ?_ | refine DrawOb.mk [] (.qs [0, 1, 2, 3, 4, 5, 6, 7, 8, 9, 10, 11, 12, 13, 14, 15] .nil) (by decide +kernel) ?_ | fail)
      all_goals try (conv => whnf)
      exact ⟨(0, false), .inr ⟨hN, rfl⟩, rfl, Imp.refl _⟩
    · obtain ⟨k1, k2, k3, k4⟩ := hk (by omega)
      have e := e1 (by omega)
      clear hk e1 hnone
      generalize (v - V + f.2.2 - 1) / f.2.2 = k at *
      obtain ⟨k, rfl⟩ : ∃ n : Nat, k = n + 1 := ⟨(k - 1).toNat, by omega⟩
      have hkp : k * f.2.1 ≤ 8000 * 120 := Nat.mul_le_mul (by omega) p2
      have h1 := hper2 k
      have h2 := hper2 (k + 1)
      rw [Int.add_sub_cancel] at k2
      have hkp2 : (k + 1) * f.2.1 = k * f.2.1 + f.2.1 := by rw [Nat.add_mul, Nat.one_mul]
      rw [hkp2] at h2
      have hb : ((k + 1 : Nat) : Int) * f.2.2 = ((k : Int) + 1) * f.2.2 := by push_cast; rfl
      rw [hb] at h2
      have hkc : ((k : Int) + 1 - 1) * f.2.1 = ((k * f.2.1 : Nat) : Int) := by rw [Int.add_sub_cancel]; push_cast; rfl
      have hlow : ∀ j, j < f.1.length + k * f.2.1 → cv f j < v := fun j hjl => by
        have := hmono j (f.1.length - 1 + k * f.2.1) (by omega)
        omega
      clear hper2 hb hkp2
      generalize k * f.2.1 = K at *
      repeat' (conv => whnf
               first | refine ⟨f.1.length - 1, _, by omega, hg, ?_⟩ | (refine CondOb.mk (fun _ => ?_) (fun _ => ?_) <;> first | (exfalso; omega) | skip) | refine ArOb.fits (by first | omega | (simp only [ints_len] at *; omega)) ?_ | refine LitOb.vec ?_ | refine MakeOb.vec ?_ | refine AllocOb.box ?_ | refine AsgOb.vec ?_ | refine AggOb.mk (by decide +kernel) ?_ | refine ArU.fits (by first | omega | (simp only [ints_len] at *; omega)) ?_ | refine ArB.fits (by first | omega | (simp only [ints_len] at *; omega)) ?_ | refine CutOb.split ?_ | refine Gh.mk [] ?_ | refine And.intro (And.intro (by (simp only [List.length_append, List.length_take, List.length_drop, List.length_cons, List.length_nil, ints_len, List.length_replicate, pks_len, Go.Cv.vals_len]; omega)) (by (simp only [List.length_append, List.length_take, List.length_drop, List.length_cons, List.length_nil, ints_len, List.length_replicate, pks_len, Go.Cv.vals_len]; omega))) ?_ | refine ⟨_, _, rfl, ints_get (by first | omega | (simp only [ints_len] at *; omega)), ?_⟩ | refine ⟨_, _, (Int.toNat_of_nonneg (by first | omega | (simp only [ints_len] at *; omega))).symm, ints_get (by first | omega | (simp only [ints_len] at *; omega)), ?_⟩ | refine DrawOb.mk [] (.qs [0, 1, 2, 3, 4, 5, 6] .nil) (by decide +kernel) ?_ | refine DrawOb.mk [] (.qs [0, 1, 2, 3, 4, 5, 6, 7, 8, 9, 10, 11, 12, 13, 14, 15] .nil) (by decide +kernel) ?_ | fail)
      all_goals try (conv => whnf)
      refine ⟨hq, ?_⟩
      rw [e]
      repeat' (conv => whnf
               first | (refine CondOb.mk (fun _ => ?_) (fun _ => ?_) <;> first | (exfalso; omega) | skip) | refine ArOb.fits (by first | omega | (simp only [ints_len] at *; omega)) ?_ | refine LitOb.vec ?_ | refine MakeOb.vec ?_ | refine AllocOb.box ?_ | refine AsgOb.vec ?_ | refine AggOb.mk (by decide +kernel) ?_ | refine ArU.fits (by first | omega | (simp only [ints_len] at *; omega)) ?_ | refine ArB.fits (by first | omega | (simp only [ints_len] at *; omega)) ?_ | refine CutOb.split ?_ | refine Gh.mk [] ?_ | refine And.intro (And.intro (by (simp only [List.length_append, List.length_take, List.length_drop, List.length_cons, List.length_nil, ints_len, List.length_replicate, pks_len, Go.Cv.vals_len]; omega)) (by (simp only [List.length_append, List.length_take, List.length_drop, List.length_cons, List.length_nil, ints_len, List.length_replicate, pks_len, Go.Cv.vals_len]; omega))) ?_ | refine ⟨_, _, rfl, ints_get (by first | omega | (simp only [ints_len] at *; omega)), ?_⟩ | refine ⟨_, _, (Int.toNat_of_nonneg (by first | omega | (simp only [ints_len] at *; omega))).symm, ints_get (by first | omega | (simp only [ints_len] at *; omega)), ?_⟩ | refine DrawOb.mk [] (.qs [0, 1, 2, 3, 4, 5, 6] .nil) (by decide +kernel) ?_ | refine DrawOb.mk [] (.qs [0, 1, 2, 3, 4, 5, 6, 7, 8, 9, 10, 11, 12, 13, 14, 15] .nil) (by decide +kernel) ?_ | fail)
      all_goals try (conv => whnf)
      refine LoopOb.mk (Y := Nat) (st := fun m => ⟨[(11, i64 (f.1.length + K + m : Nat)), (2, .ptr 0 0), (1, i64 v)], [.box [.psl 1 (ints f.1), i64 f.2.1, i64 f.2.2]]⟩)
        (inv := fun m => m ≤ f.2.1 - 1 ∧ ∀ j, j < f.1.length + K + m → cv f j < v) (fun m => f.2.1 - m) 0 [0] ⟨by omega, hlow⟩ (by (refine Le.mk (by kernel_rfl) ?_ ?_ <;> repeat' (first | exact True.intro | refine And.intro ?_ ?_ | exact Imp.refl _ | exact Imp.any _ | exact Imp.num (by first | omega | simp only [ints_len]) | exact rfl | exact Imp.bl (by simp)))) ?_
      rintro m ⟨hm, hmj⟩
      have cA := WAt_ok f.1 f.2.1 f.2.2 (f.1.length + K + m : Nat) (bd_of vf) (by omega) (by omega)
      rw [show val f.1 f.2.1 f.2.2 ((f.1.length + K + m : Nat) : Int).toNat = cv f (f.1.length + K + m) by rw [Int.toNat_natCast]; rfl] at cA
      have hs1 : ¬cv f (f.1.length + K + m) < v → rch f v = some (f.1.length + K + m) := fun h => rch_some (by omega) (by omega) hmj
      have hs2 : cv f (f.1.length + K + m) < v → m + 1 ≤ f.2.1 - 1 ∧ ∀ j, j < f.1.length + K + (m + 1) → cv f j < v := fun h => ⟨by
        apply Classical.byContradiction
        intro h3
        have h4 := hmono (f.1.length - 1 + (K + f.2.1)) (f.1.length + K + m) (by omega)
        omega, fun j hjl => by
        by_cases e : j = f.1.length + K + m
        · subst e; exact h
        · exact hmj j (by omega)⟩
      clear hmj hlow hj hmono h1 h2
      generalize cv f (f.1.length + K + m) = w at *
      repeat' (conv => whnf
               first | (refine CondOb.mk (fun _ => ?_) (fun _ => ?_) <;> first | (exfalso; omega) | skip) | refine ArOb.fits (by first | omega | (simp only [ints_len] at *; omega)) ?_ | refine LitOb.vec ?_ | refine MakeOb.vec ?_ | refine AllocOb.box ?_ | refine AsgOb.vec ?_ | refine AggOb.mk (by decide +kernel) ?_ | refine ArU.fits (by first | omega | (simp only [ints_len] at *; omega)) ?_ | refine ArB.fits (by first | omega | (simp only [ints_len] at *; omega)) ?_ | refine CutOb.split ?_ | refine Gh.mk [] ?_ | refine And.intro (And.intro (by (simp only [List.length_append, List.length_take, List.length_drop, List.length_cons, List.length_nil, ints_len, List.length_replicate, pks_len, Go.Cv.vals_len]; omega)) (by (simp only [List.length_append, List.length_take, List.length_drop, List.length_cons, List.length_nil, ints_len, List.length_replicate, pks_len, Go.Cv.vals_len]; omega))) ?_ | refine ⟨_, _, rfl, ints_get (by first | omega | (simp only [ints_len] at *; omega)), ?_⟩ | refine ⟨_, _, (Int.toNat_of_nonneg (by first | omega | (simp only [ints_len] at *; omega))).symm, ints_get (by first | omega | (simp only [ints_len] at *; omega)), ?_⟩ | refine DrawOb.mk [] (.qs [0, 1, 2, 3, 4, 5, 6] .nil) (by decide +kernel) ?_ | refine DrawOb.mk [] (.qs [0, 1, 2, 3, 4, 5, 6, 7, 8, 9, 10, 11, 12, 13, 14, 15] .nil) (by decide +kernel) ?_ | (refine CallOb.mk [] cA rfl (ImpL.refl _) rfl rfl ?_; rintro _ _ ⟨rfl, rfl⟩) | fail)
      all_goals try (conv => whnf)
      all_goals first
        | exact ⟨m + 1, [0], hs2 (by assumption), by omega, by (refine Le.mk (by kernel_rfl) ?_ ?_ <;> repeat' (first | exact True.intro | refine And.intro ?_ ?_ | exact Imp.refl _ | exact Imp.any _ | exact Imp.num (by first | omega | simp only [ints_len]) | exact rfl | exact Imp.bl (by simp)))⟩
        | exact ⟨(((f.1.length + K + m : Nat) : Int), true), .inl ⟨_, by omega, hs1 (by assumption), rfl⟩, rfl, Imp.refl _⟩
        | trace_state
theorem Reach_ok (f : C3) (vf : VC f) (v : Int) (hv : 0 ≤ v ∧ v ≤ 8000) : Ctr Try.prog 73 [crv f.1 f.2.1 f.2.2, i64 v] [] (fun r o => ∃ x : Int × Bool, RchR f v x ∧ o = [] ∧ r = .tup [i64 x.1, .bl x.2, i64 0]) := by
  refine Ctr.impE ?_
  refine fn_intro (E := env 0) tys_ok rfl rfl rfl Try.func73 (by kernel_rfl) rfl (by kernel_rfl) ?_
  have hV : ValidP f.1 f.2.1 f.2.2 := vf.valid
  repeat' (conv => whnf
           first | (refine CondOb.mk (fun _ => ?_) (fun _ => ?_) <;> first | (exfalso; omega) | skip) | refine ArOb.fits (by first | omega | (simp only [ints_len] at *; omega)) ?_ | refine LitOb.vec ?_ | refine MakeOb.vec ?_ | refine AllocOb.box ?_ | refine AsgOb.vec ?_ | refine AggOb.mk (by decide +kernel) ?_ | refine ArU.fits (by first | omega | (simp only [ints_len] at *; omega)) ?_ | refine ArB.fits (by first | omega | (simp only [ints_len] at *; omega)) ?_ | refine CutOb.split ?_ | refine Gh.mk [] ?_ | refine And.intro (And.intro (by (simp only [List.length_append, List.length_take, List.length_drop, List.length_cons, List.length_nil, ints_len, List.length_replicate, pks_len, Go.Cv.vals_len]; omega)) (by (simp only [List.length_append, List.length_take, List.length_drop, List.length_cons, List.length_nil, ints_len, List.length_replicate, pks_len, Go.Cv.vals_len]; omega))) ?_ | refine ⟨_, _, rfl, ints_get (by first | omega | (simp only [ints_len] at *; omega)), ?_⟩ | refine ⟨_, _, (Int.toNat_of_nonneg (by first | omega | (simp only [ints_len] at *; omega))).symm, ints_get (by first | omega | (simp only [ints_len] at *; omega)), ?_⟩ | (refine CallOb.mk [] (CValid_ok f.1 f.2.1 f.2.2 (by have := vf.n2; omega)) rfl (ImpL.refl _) rfl rfl ?_; rintro _ _ ⟨rfl, rfl⟩) | fail)
  all_goals try (conv => whnf)
  · exact absurd hV (by assumption)
  · refine CallOb.mk [] (reach_ok f vf v hv) rfl (ImpL.refl _) rfl rfl ?_
    rintro _ _ ⟨x, hx, rfl, rfl⟩
    repeat' (conv => whnf
             first | (refine CondOb.mk (fun _ => ?_) (fun _ => ?_) <;> first | (exfalso; omega) | skip) | refine ArOb.fits (by first | omega | (simp only [ints_len] at *; omega)) ?_ | refine LitOb.vec ?_ | refine MakeOb.vec ?_ | refine AllocOb.box ?_ | refine AsgOb.vec ?_ | refine AggOb.mk (by decide +kernel) ?_ | refine ArU.fits (by first | omega | (simp only [ints_len] at *; omega)) ?_ | refine ArB.fits (by first | omega | (simp only [ints_len] at *; omega)) ?_ | refine CutOb.split ?_ | refine Gh.mk [] ?_ | refine And.intro (And.intro (by (simp only [List.length_append, List.length_take, List.length_drop, List.length_cons, List.length_nil, ints_len, List.length_replicate, pks_len, Go.Cv.vals_len]; omega)) (by (simp only [List.length_append, List.length_take, List.length_drop, List.length_cons, List.length_nil, ints_len, List.length_replicate, pks_len, Go.Cv.vals_len]; omega))) ?_ | refine ⟨_, _, rfl, ints_get (by first | omega | (simp only [ints_len] at *; omega)), ?_⟩ | refine ⟨_, _, (Int.toNat_of_nonneg (by first | omega | (simp only [ints_len] at *; omega))).symm, ints_get (by first | omega | (simp only [ints_len] at *; omega)), ?_⟩ | fail)
    all_goals try (conv => whnf)
    exact ⟨x, hx, rfl, Imp.refl _⟩
end Go.Proofs.Ytabbnnfobjifiaa
