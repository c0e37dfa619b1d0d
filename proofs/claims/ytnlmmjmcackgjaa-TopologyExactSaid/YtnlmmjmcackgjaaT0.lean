/-
  A text of the proofs of this seat: lemmas that the statements' proofs use; it states nothing of the program by itself beyond the contracts that its theorems bear. Conditions: those that stand in each theorem. Its short name: T0.
-/
import Derived.Test.YtnlmmjmcackgjaaLib
import Derived.Test.YtnlmmjmcackgjaaNd
import Derived.Test.YtnlmmjmcackgjaaSxC
import Derived.Test.YtnlmmjmcackgjaaPl
set_option linter.unusedVariables false
set_option linter.unusedSimpArgs false
namespace Go.Proofs.Ytnlmmjmcackgjaa
open Go.Sx Go.Np Go.Tp
/-! graphs as the program has them -/
abbrev bls (m : Nat) (f : Nat → Bool) : List (List SV) := (List.range m).map fun b => [.bl (f b)]
abbrev gms (n m : Nat) (E : Gr) : List (List (List SV)) := (List.range n).map fun a => bls m (E a)
abbrev gps (n m : Nat) (E : Gr) : List (List SV) := (List.range n).map fun a => [.psl 1 (bls m (E a))]
theorem bls_len (m : Nat) (f : Nat → Bool) : (bls m f).length = m := by simp [bls]
theorem gms_len (n m : Nat) (E : Gr) : (gms n m E).length = n := by simp [gms]
theorem gps_len (n m : Nat) (E : Gr) : (gps n m E).length = n := by simp [gps]
theorem bls_get {m b : Nat} {f : Nat → Bool} (h : b < m) : (bls m f)[b]? = some [.bl (f b)] := by simp [bls, h]
theorem gms_get {n m a : Nat} {E : Gr} (h : a < n) : (gms n m E)[a]? = some (bls m (E a)) := by simp [gms, h]
theorem gps_get {n m a : Nat} {E : Gr} (h : a < n) : (gps n m E)[a]? = some [.psl 1 (bls m (E a))] := by simp [gps, h]
theorem bls_congr {m : Nat} {f g : Nat → Bool} (h : ∀ b, b < m → f b = g b) : bls m f = bls m g := by
  unfold bls
  refine List.map_congr_left fun b hb => ?_
  rw [h b (List.mem_range.1 hb)]
theorem bls_set {m b : Nat} {f : Nat → Bool} {v : Bool} : (bls m f).set b [.bl v] = bls m (fun x => if x = b then v else f x) := by
  apply List.ext_getElem?
  intro i
  rw [List.getElem?_set]
  by_cases h : i < m
  · rw [bls_get h, bls_get h]
    by_cases e : b = i
    · subst e; rw [if_pos rfl, if_pos (by rw [bls_len]; exact h), if_pos rfl]
    · rw [if_neg e, if_neg (fun k => e k.symm)]
  · rw [List.getElem?_eq_none (by rw [bls_len]; omega), List.getElem?_eq_none (by rw [bls_len]; omega)]
    split
    · rw [if_neg]; rw [bls_len]; omega
    · rfl
theorem gms_set {n m a b : Nat} {E : Gr} {v : Bool} (ha : a < n) : (gms n m E).set a ((bls m (E a)).set b [.bl v]) = gms n m (fun x y => if x = a ∧ y = b then v else E x y) := by
  apply List.ext_getElem?
  intro i
  rw [List.getElem?_set]
  by_cases h : i < n
  · rw [gms_get h, gms_get h]
    by_cases e : a = i
    · subst e
      rw [if_pos rfl, if_pos (by rw [gms_len]; exact h), bls_set]
      simp
    · rw [if_neg e]
      have : ∀ y, ¬(i = a ∧ y = b) := fun y k => e k.1.symm
      simp [this]
  · rw [List.getElem?_eq_none (by rw [gms_len]; omega), List.getElem?_eq_none (by rw [gms_len]; omega)]
    split
    · rw [if_neg]; rw [gms_len]; omega
    · rfl
theorem gms_fz (n m : Nat) (E : Gr) : (gms n m E).map (fun r => [SV.psl 1 r]) = gps n m E := by simp [gms, gps]
/- a graph that is being made: the first rows are there -/
abbrev bms (i m : Nat) : List (List (List SV)) := (List.range m).map fun a => if a < i then bls m (fun _ => false) else []
theorem bms_len (i m : Nat) : (bms i m).length = m := by simp [bms]
theorem bms_zero (m : Nat) : bms 0 m = List.replicate m [] := by
  apply List.ext_getElem <;> simp [bms]
theorem bms_full (m : Nat) : bms m m = gms m m (fun _ _ => false) := by
  unfold bms gms
  refine List.map_congr_left fun a ha => ?_
  rw [if_pos (List.mem_range.1 ha)]
theorem bms_set {i m : Nat} (h : i < m) : (bms i m).set i (bls m fun _ => false) = bms (i + 1) m := by
  apply List.ext_getElem?
  intro j
  rw [List.getElem?_set]
  by_cases hj : j < m
  · have e : ∀ k, (bms k m)[j]? = some (if j < k then bls m (fun _ => false) else []) := fun k => by simp [bms, hj]
    rw [e, e]
    by_cases ej : i = j
    · subst ej; rw [if_pos rfl, if_pos (by rw [bms_len]; exact h), if_pos (by omega)]
    · rw [if_neg ej]
      by_cases h2 : j < i
      · rw [if_pos h2, if_pos (by omega)]
      · rw [if_neg h2, if_neg (by omega)]
  · rw [List.getElem?_eq_none (by rw [bms_len]; omega), List.getElem?_eq_none (by rw [bms_len]; omega)]
    split
    · rw [if_neg]; rw [bms_len]; omega
    · rfl
theorem rep_bls (m : Nat) : List.replicate m [SV.bl false] = bls m fun _ => false := by
  apply List.ext_getElem <;> simp [bls]
theorem aP_T0 {A B K : Prop} (k : K) (a : A := by (simp only [zA, zT, zD, zC, zN, ints_len, zR, lnl, fll, stl]; omega)) (b : B := by (simp only [zA, zT, zD, zC, zN, ints_len, zR, lnl, fll, stl]; omega)) : (A ∧ B) ∧ K := ⟨⟨a, b⟩, k⟩
theorem blank_ok (m : Nat) (hm : m ≤ 1000) : Ctr Try.prog 60 [i64 m] [] (fun r o => o = [.mat 1 (gms m m fun _ _ => false)] ∧ r = .vec 0) := by
  refine fn_intro (E := env 0) tys_ok rfl rfl rfl Try.func60 (by kernel_rfl) rfl (by kernel_rfl) ?_
  have hrep : (List.replicate m ([] : List (List SV))).length = m := List.length_replicate
  (repeat' (conv => whnf); first | refine MakeOb.mat ?_ | refine aC (fun _ => ?_) (fun _ => ?_) | refine aS ?_ | refine aG ?_ | refine aD ?_ | refine aH ?_ | refine aP_T0 ?_ | refine aI ?_ | refine aJ ?_ | refine ⟨_, _, rfl, rfl, Nat.le_refl _, ⟨by (simp only; omega), by omega⟩, ?_⟩ | fail); all_goals try (conv => whnf)
  refine LoopOb.mk (Y := Nat) (st := fun i => ⟨[(9, i64 i), (8, i64 m), (3, .vec 1), (0, i64 m)], [.vec 1 [], .mat 1 (bms i m)]⟩)
    (inv := fun i => i ≤ m) (fun i => m - i) 0 [0, 1] (by omega) (by rw [bms_zero]; (exact aL)) ?_
  intro i hi
  have hl := bms_len i m
  (repeat' (conv => whnf); first | refine aS ?_ | refine aG ?_ | refine aD ?_ | refine aH ?_ | refine aP_T0 ?_ | refine aI ?_ | refine aJ ?_ | fail); all_goals try (conv => whnf)
  refine CondOb.mk (fun hlt => ?_) (fun hlt => ?_)
  · have hlt' : i < m := by omega
    (repeat' (conv => whnf); first | (refine aC (fun _ => ?_) (fun _ => ?_) <;> try (exfalso; omega)) | refine aS ?_ | refine aG ?_ | refine aD ?_ | refine aH ?_ | refine aP_T0 ?_ | refine aI ?_ | refine aJ ?_ | refine ⟨_, _, rfl, rfl, Nat.le_refl _, ⟨by (simp only; omega), by omega⟩, ?_⟩ | fail); all_goals try (conv => whnf)
    refine ⟨i, rfl, by omega, ?_⟩
    (repeat' (conv => whnf); first | (refine aC (fun _ => ?_) (fun _ => ?_) <;> try (exfalso; omega)) | refine aS ?_ | refine aG ?_ | refine aD ?_ | refine aH ?_ | refine aP_T0 ?_ | refine aI ?_ | refine aJ ?_ | refine ⟨_, _, rfl, rfl, Nat.le_refl _, ⟨by (simp only; omega), by omega⟩, ?_⟩ | fail); all_goals try (conv => whnf)
    refine ⟨by omega, ?_⟩
    (repeat' (conv => whnf); first | (refine aC (fun _ => ?_) (fun _ => ?_) <;> try (exfalso; omega)) | refine aS ?_ | refine aG ?_ | refine aD ?_ | refine aH ?_ | refine aP_T0 ?_ | refine aI ?_ | refine aJ ?_ | refine ⟨_, _, rfl, rfl, Nat.le_refl _, ⟨by (simp only; omega), by omega⟩, ?_⟩ | fail); all_goals try (conv => whnf)
    have hst := bms_set hlt'
    exact ⟨i + 1, [0, 3], by omega, by omega, by rw [← hst, ← rep_bls]; (exact aL)⟩
  · (repeat' (conv => whnf); first | refine aC (fun _ => ?_) (fun _ => ?_) | refine aS ?_ | refine aG ?_ | refine aD ?_ | refine aP_T0 ?_ | refine aI ?_ | refine aJ ?_ | fail); all_goals try (conv => whnf)
    have : i = m := by omega
    subst this
    refine .mk [.wk [1] ⟨[(2, .vec 0)], [.mat 1 (gms i i fun _ _ => false)]⟩] ⟨by rw [← bms_full]; (exact aL), ?_⟩
    exact ⟨rfl, rfl⟩
end Go.Proofs.Ytnlmmjmcackgjaa
