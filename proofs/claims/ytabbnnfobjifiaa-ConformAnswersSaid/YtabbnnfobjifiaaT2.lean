/-
  A text of the proofs of this seat: lemmas that the statements' proofs use; it states nothing of the program by itself beyond the contracts that its theorems bear. Conditions: those that stand in each theorem. Its short name: T2 R1.
-/
import Derived.Test.YtabbnnfobjifiaaT1
import Derived.Test.YtabbnnfobjifiaaTy
import Derived.Test.YtabbnnfobjifiaaPl
set_option linter.unusedVariables false
set_option linter.unusedSimpArgs false
section
namespace Go.Proofs.Ytabbnnfobjifiaa
open Go.Sx Go.Pk Go.Cv
set_option maxRecDepth 4000
set_option maxHeartbeats 2000000
theorem aP_T2 {A B K : Prop} (k : K) (a : A := by (simp only [zA, zT, zD, zC, zN, ints_len, zR, Go.Cv.vals_len]; omega)) (b : B := by (simp only [zA, zT, zD, zC, zN, ints_len, zR, Go.Cv.vals_len]; omega)) : (A ∧ B) ∧ K := ⟨⟨a, b⟩, k⟩
theorem Validate_ok (p : List Pk) (hp : p.length ≤ 1000000) : Ctr Try.prog 54 [.psl 3 (pks p)] [] (fun r o => o = [] ∧ r = i64 (vld p)) := by
  refine fn_intro (E := env 0) tys_ok rfl rfl rfl Try.func54 (by kernel_rfl) rfl (by kernel_rfl) ?_
  have hpl := pks_len p
  (repeat' (conv => whnf); first | (refine aC (fun _ => ?_) (fun _ => ?_) <;> try (exfalso; omega)) | refine aS ?_ | refine aG ?_ | refine aD ?_ | refine aH ?_ | refine aP_T2 ?_ | refine aI ?_ | refine aJ ?_ | fail); all_goals try (conv => whnf)
  · exact ⟨rfl, by unfold vld; rw [if_pos (by omega)]; rfl⟩
  refine LoopOb.mk (Y := Nat) (st := fun i => ⟨[(11, i64 i), (10, i64 (pks p).length), (9, .psl 3 (pks p)), (3, i64 (lst p i))], []⟩)
    (inv := fun i => i ≤ p.length ∧ vldN p i = 0) (fun i => p.length - i) 0 [] ⟨by omega, rfl⟩ (by (exact aL)) ?_
  rintro i ⟨hi, hv⟩
  (repeat' (conv => whnf); first | refine aS ?_ | refine aG ?_ | refine aD ?_ | refine aH ?_ | refine aP_T2 ?_ | refine aI ?_ | refine aJ ?_ | fail); all_goals try (conv => whnf)
  refine CondOb.mk (fun hlt => ?_) (fun hlt => ?_)
  · have hil : i < p.length := by omega
    have hg := pks_get hil
    have hs0 : vldN p (i + 1) = if bad (p.getD i pk0) then 2 else if (p.getD i pk0).t < lst p i then 7 else 0 := by simp only [vldN]; rw [if_neg (by omega)]
    have hs1 : bad (p.getD i pk0) → vldN p (i + 1) = 2 := fun h => by rw [hs0, if_pos h]
    have hs2 : ¬bad (p.getD i pk0) → (p.getD i pk0).t < lst p i → vldN p (i + 1) = 7 := fun h h' => by rw [hs0, if_neg h, if_pos h']
    have hs3 : ¬bad (p.getD i pk0) → ¬(p.getD i pk0).t < lst p i → vldN p (i + 1) = 0 := fun h h' => by rw [hs0, if_neg h, if_neg h']
    clear hs0
    have hl : lst p (i + 1) = (p.getD i pk0).t := rfl
    have hE : vldN p (i + 1) ≠ 0 → vld p = vldN p (i + 1) := fun h => by
      unfold vld; rw [if_neg (by omega)]; exact vldN_ge (by omega) h
    unfold bad at hs1 hs2 hs3
    generalize p.getD i pk0 = x at *
    generalize lst p i = y at *
    (repeat' (conv => whnf); first | refine ⟨i, _, rfl, hg, ?_⟩ | (refine aC (fun _ => ?_) (fun _ => ?_) <;> try (exfalso; omega)) | refine aS ?_ | refine aG ?_ | refine aD ?_ | refine aH ?_ | refine aP_T2 ?_ | refine aI ?_ | refine aJ ?_ | fail); all_goals try (conv => whnf)
    all_goals first
      | (have e := hs3 (by omega) (by assumption)
         exact ⟨i + 1, [], ⟨by omega, e⟩, by omega, by rw [hl]; (exact aL)⟩)
      | (have e := hs1 (by omega)
         have e2 := (hE (by omega)).trans e
         rw [e2]
         exact ⟨rfl, rfl⟩)
      | (have e := hs2 (by omega) (by assumption)
         have e2 := (hE (by omega)).trans e
         rw [e2]
         exact ⟨rfl, rfl⟩)
      | trace_state
  · have e : i = p.length := by omega
    subst e
    (repeat' (conv => whnf); first | (refine aC (fun _ => ?_) (fun _ => ?_) <;> try (exfalso; omega)) | refine aS ?_ | refine aG ?_ | refine aD ?_ | refine aH ?_ | refine aP_T2 ?_ | refine aI ?_ | refine aJ ?_ | fail); all_goals try (conv => whnf)
    exact ⟨rfl, by unfold vld; rw [if_neg (by omega), hv]; rfl⟩
end Go.Proofs.Ytabbnnfobjifiaa
end
section
namespace Go.Proofs.Ytabbnnfobjifiaa
open Go.Sx Go.Cv
set_option maxRecDepth 4000
theorem aP_R1 {A B K : Prop} (k : K) (a : A := by (simp only [zA, zT, zD, zC, zN, ints_len, zR, Go.Cv.vals_len]; omega)) (b : B := by (simp only [zA, zT, zD, zC, zN, ints_len, zR, Go.Cv.vals_len]; omega)) : (A ∧ B) ∧ K := ⟨⟨a, b⟩, k⟩
structure Bd (vs : List Int) (p : Nat) (q : Int) : Prop where
  p1 : 1 ≤ p
  pn : p ≤ vs.length
  n : vs.length ≤ 2100
  q0 : 0 ≤ q
  q1 : q ≤ 1099511627776
  v : ∀ j, 0 ≤ vs.getD j 0 ∧ vs.getD j 0 ≤ 4611686018427387904
theorem at_idx {n p t : Nat} (ht : n ≤ t) (hp : 1 ≤ p) (hp2 : p ≤ n) : ((t - n) / p + 1) * p ≤ t ∧ t - ((t - n) / p + 1) * p < n ∧ n - p ≤ t - ((t - n) / p + 1) * p := by
  have h1 := Nat.div_add_mod (t - n) p
  have h2 := Nat.mod_lt (t - n) hp
  have h3 : ((t - n) / p + 1) * p = p * ((t - n) / p) + p := by rw [Nat.add_mul, Nat.one_mul, Nat.mul_comm]
  omega
theorem mul_bd {a b A B : Int} (ha : 0 ≤ a) (ha2 : a ≤ A) (hb : 0 ≤ b) (hb2 : b ≤ B) : 0 ≤ a * b ∧ a * b ≤ A * B :=
  ⟨Int.mul_nonneg ha hb, Int.mul_le_mul ha2 hb2 hb (by omega)⟩
theorem At_ok (vs : List Int) (p : Nat) (q t : Int) (hb : Bd vs p q) (ht : 0 ≤ t) (ht2 : t ≤ 1048576) :
    Ctr Try.prog 40 [crv vs p q, i64 t] [] (fun r o => o = [] ∧ r = i64 (val vs p q t.toNat)) := by
  obtain ⟨p1, pn, hn, q0, q1, hv⟩ := hb
  obtain ⟨t, rfl⟩ := Int.eq_ofNat_of_zero_le ht
  simp only [Int.toNat_natCast]
  refine fn_intro (E := env 0) tys_ok rfl rfl rfl Try.func40 (by kernel_rfl) rfl (by kernel_rfl) ?_
  (repeat' (conv => whnf); first | refine aC (fun _ => ?_) (fun _ => ?_) | refine aS ?_ | refine aG ?_ | refine aD ?_ | refine aH ?_ | refine aP_R1 ?_ | refine aI ?_ | refine aJ ?_ | fail); all_goals try (conv => whnf)
  all_goals try (simp only [ints_len] at *)
  all_goals try omega
  · have hle : vs.length ≤ t := by omega
    have e1 : ((t : Int) - vs.length).tdiv p = ((t - vs.length) / p : Nat) := by
      rw [Int.tdiv_eq_ediv_of_nonneg (by omega)]
      push_cast [Int.ofNat_sub hle]; rfl
    have hx := at_idx hle p1 pn
    have hd : (t - vs.length) / p ≤ t - vs.length := Nat.div_le_self _ _
    have hval : val vs p q t = if vs.getD (t - ((t - vs.length) / p + 1) * p) 0 = INF then INF else vs.getD (t - ((t - vs.length) / p + 1) * p) 0 + ((t - vs.length) / p + 1 : Nat) * q := by
      simp only [val]; rw [if_neg (by omega)]
    rw [hval, e1]
    generalize (t - vs.length) / p = k at *
    have e3 : ((k : Int) + 1) * (p : Int) = ((k + 1) * p : Nat) := by push_cast; rfl
    have hkq := mul_bd (a := (k : Int) + 1) (b := q) (A := 1048577) (B := 1099511627776) (by omega) (by omega) (by omega) (by omega)
    have hv1 := hv ((t : Int) - ((k : Int) + 1) * p).toNat
    refine ⟨by omega, ?_⟩
    (repeat' (conv => whnf); first | refine aC (fun _ => ?_) (fun _ => ?_) | refine aS ?_ | refine aG ?_ | refine aD ?_ | refine aH ?_ | refine aP_R1 ?_ | refine aI ?_ | refine aJ ?_ | fail); all_goals try (conv => whnf)
    all_goals rw [show ((t : Int) - ((k : Int) + 1) * p).toNat = t - (k + 1) * p by omega] at *
    · exact ⟨rfl, by simp only [oneS]; rw [if_pos (by assumption)]⟩
    · exact ⟨rfl, by simp only [oneS]; rw [if_neg (by assumption)]; push_cast; rfl⟩
  · exact ⟨trivial, by simp only [oneS]; rw [val_lt (by omega)]⟩
end Go.Proofs.Ytabbnnfobjifiaa
end
