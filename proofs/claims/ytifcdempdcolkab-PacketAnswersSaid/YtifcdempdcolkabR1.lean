/-
  A text of the proofs of this seat: lemmas that the statements' proofs use; it states nothing of the program by itself beyond the contracts that its theorems bear. Conditions: those that stand in each theorem. Its short name: R1.
-/
import Derived.Test.YtifcdempdcolkabLib
import Derived.Test.YtifcdempdcolkabPl
set_option linter.unusedVariables false
set_option linter.unusedSimpArgs false
namespace Go.Proofs.Ytifcdempdcolkab
open Go.Sx Go.Cv
set_option maxRecDepth 4000
theorem aP_R1 {A B K : Prop} (k : K) (a : A := by (simp only [zA, zT, zD, zC, zN, ints_len, zR, Go.Cv.vals_len]; omega)) (b : B := by (simp only [zA, zT, zD, zC, zN, ints_len, zR, Go.Cv.vals_len]; omega)) : (A ∧ B) ∧ K := ⟨⟨a, b⟩, k⟩
theorem Gcd_ok (a b : Int) (ha : 0 ≤ a) (hb : 0 ≤ b) : Ctr Try.prog 81 [i64 a, i64 b] [] (fun r o => o = [] ∧ r = i64 (Int.gcd a b)) := by
  refine fn_intro (E := env 0) tys_ok rfl rfl rfl Try.func81 (by kernel_rfl) rfl (by kernel_rfl) ?_
  (repeat' (conv => whnf); first | refine aC (fun _ => ?_) (fun _ => ?_) | refine aS ?_ | refine aG ?_ | refine aD ?_ | refine aH ?_ | refine aP_R1 ?_ | refine aI ?_ | refine aJ ?_ | fail); all_goals try (conv => whnf)
  obtain ⟨a, rfl⟩ := Int.eq_ofNat_of_zero_le ha
  obtain ⟨b, rfl⟩ := Int.eq_ofNat_of_zero_le hb
  refine LoopOb.mk (Y := Nat × Nat) (st := fun y => ⟨[(0, i64 y.1), (1, i64 y.2)], []⟩)
    (inv := fun y => Nat.gcd y.1 y.2 = Nat.gcd a b) (fun y => y.2) (a, b) [] rfl (by (exact aL)) ?_
  rintro ⟨x, y⟩ hg
  replace hg : Nat.gcd x y = Nat.gcd a b := hg
  (repeat' (conv => whnf); first | refine aC (fun _ => ?_) (fun _ => ?_) | refine aS ?_ | refine aG ?_ | refine aD ?_ | refine aH ?_ | refine aP_R1 ?_ | refine aI ?_ | refine aJ ?_ | refine aW (.qs [0, 1, 2, 3, 4, 5] .nil) ?_ | fail); all_goals try (conv => whnf)
  · have hy0 : (y : Int) ≠ 0 := by assumption
    have e : (x : Int).tmod y = (x % y : Nat) := by rw [Int.tmod_eq_emod_of_nonneg (by omega)]; rfl
    refine ⟨hy0, ?_⟩
    (repeat' (conv => whnf); first | refine aC (fun _ => ?_) (fun _ => ?_) | refine aS ?_ | refine aG ?_ | refine aD ?_ | refine aH ?_ | refine aP_R1 ?_ | refine aI ?_ | refine aJ ?_ | refine aW (.qs [0, 1, 2, 3, 4, 5] .nil) ?_ | fail); all_goals try (conv => whnf)
    refine ⟨(y, x % y), [], ?_, Nat.mod_lt _ (by omega), by (exact aL)⟩
    rw [← hg]
    simp only
    rw [Nat.gcd_comm x y, Nat.gcd_rec y x, Nat.gcd_comm]
  · have hy0 : ¬(y : Int) ≠ 0 := by assumption
    have : y = 0 := by omega
    subst this
    refine ⟨rfl, ?_⟩
    have : Int.gcd (a : Int) b = Nat.gcd a b := rfl
    rw [this, ← hg]
    simp [oneS]
theorem lcm_eq (a b : Nat) (ha : 1 ≤ a) : a / Nat.gcd a b * b = Nat.lcm a b := by
  rw [Nat.lcm, Nat.div_mul_right_comm (Nat.gcd_dvd_left a b)]
theorem Lcm_ok (a b : Nat) (ha : 1 ≤ a) (hb : 1 ≤ b) (ha2 : a ≤ 1000000) (hb2 : b ≤ 1000000) : Ctr Try.prog 78 [i64 a, i64 b] [] (fun r o => o = [] ∧ r = i64 (Nat.lcm a b)) := by
  refine fn_intro (E := env 0) tys_ok rfl rfl rfl Try.func78 (by kernel_rfl) rfl (by kernel_rfl) ?_
  (repeat' (conv => whnf); first | refine aC (fun _ => ?_) (fun _ => ?_) | refine aS ?_ | refine aG ?_ | refine aD ?_ | refine aH ?_ | refine aP_R1 ?_ | refine aI ?_ | refine aJ ?_ | fail); all_goals try (conv => whnf)
  refine CallOb.mk [] (Gcd_ok _ _ (by omega) (by omega)) rfl (ImpL.refl _) rfl rfl ?_
  rintro _ _ ⟨rfl, rfl⟩
  (repeat' (conv => whnf); first | refine aC (fun _ => ?_) (fun _ => ?_) | refine aS ?_ | refine aG ?_ | refine aD ?_ | refine aH ?_ | refine aP_R1 ?_ | refine aI ?_ | refine aJ ?_ | fail); all_goals try (conv => whnf)
  have hg : 1 ≤ Nat.gcd a b := Nat.gcd_pos_of_pos_left b (by omega)
  have e0 : Int.gcd (a : Int) b = Nat.gcd a b := rfl
  rw [e0]
  refine ⟨by omega, ?_⟩
  have e : (a : Int).tdiv (Nat.gcd a b : Nat) = (a / Nat.gcd a b : Nat) := by
    rw [Int.tdiv_eq_ediv_of_nonneg (by omega)]; rfl
  have h1 := Nat.div_le_self a (Nat.gcd a b)
  have h2 : a / Nat.gcd a b * b ≤ 1000000 * 1000000 := Nat.mul_le_mul (by omega) hb2
  rw [e]
  have e2 : a / Nat.gcd a b * b = Nat.lcm a b := lcm_eq a b ha
  generalize a / Nat.gcd a b = d at *
  have h3 : ((d : Int) * (b : Int)) = ((d * b : Nat) : Int) := by push_cast; rfl
  have h4 : (0 : Int) ≤ (d : Int) * (b : Int) ∧ (d : Int) * (b : Int) ≤ 1000000000000 := by rw [h3]; omega
  (repeat' (conv => whnf); first | refine aC (fun _ => ?_) (fun _ => ?_) | refine aS ?_ | refine aG ?_ | refine aD ?_ | refine aH ?_ | refine aP_R1 ?_ | refine aI ?_ | refine aJ ?_ | fail); all_goals try (conv => whnf)
  refine ⟨rfl, ?_⟩
  simp only [oneS]
  rw [← e2, h3]
structure Bd (vs : List Int) (p : Nat) (q : Int) : Prop where
  p1 : 1 ≤ p
  pn : p ≤ vs.length
  n : vs.length ≤ 2000
  q0 : 0 ≤ q
  q1 : q ≤ 1099511627776
  v : ∀ j, 0 ≤ vs.getD j 0 ∧ vs.getD j 0 ≤ 4611686018427387904
theorem at_idx {n p t : Nat} (ht : n ≤ t) (hp : 1 ≤ p) (hp2 : p ≤ n) : ((t - n) / p + 1) * p ≤ t ∧ t - ((t - n) / p + 1) * p < n ∧ n - p ≤ t - ((t - n) / p + 1) * p := by
  have h1 := Nat.div_add_mod (t - n) p
  have h2 := Nat.mod_lt (t - n) hp
  have h3 : ((t - n) / p + 1) * p = p * ((t - n) / p) + p := by rw [Nat.add_mul, Nat.one_mul, Nat.mul_comm]
  omega
theorem mul_bd {a b A B : Int} (ha : 0 ≤ a) (ha2 : a ≤ A) (hb : 0 ≤ b) (hb2 : b ≤ B) : 0 ≤ a * b ∧ a * b ≤ A * B :=
  ⟨Int.mul_nonneg ha hb, Int.mul_le_mul ha2 hb2 hb (by omega)⟩
theorem At_ok (vs : List Int) (p : Nat) (q t : Int) (hb : Bd vs p q) (ht : 0 ≤ t) (ht2 : t ≤ 1048576) :
    Ctr Try.prog 29 [crv vs p q, i64 t] [] (fun r o => o = [] ∧ r = i64 (val vs p q t.toNat)) := by
  obtain ⟨p1, pn, hn, q0, q1, hv⟩ := hb
  obtain ⟨t, rfl⟩ := Int.eq_ofNat_of_zero_le ht
  simp only [Int.toNat_natCast]
  refine fn_intro (E := env 0) tys_ok rfl rfl rfl Try.func29 (by kernel_rfl) rfl (by kernel_rfl) ?_
  (repeat' (conv => whnf); first | refine aC (fun _ => ?_) (fun _ => ?_) | refine aS ?_ | refine aG ?_ | refine aD ?_ | refine aH ?_ | refine aP_R1 ?_ | refine aI ?_ | refine aJ ?_ | fail); all_goals try (conv => whnf)
  all_goals try (simp only [ints_len] at *)
  all_goals try omega
  · have hle : vs.length ≤ t := by omega
    have e1 : ((t : Int) - vs.length).tdiv p = ((t - vs.length) / p : Nat) := by
      rw [Int.tdiv_eq_ediv_of_nonneg (by omega)]
      push_cast [Int.ofNat_sub hle]; rfl
    have hx := at_idx hle p1 pn
    have hd : (t - vs.length) / p ≤ t - vs.length := Nat.div_le_self _ _
    have hval : val vs p q t = if vs.getD (t - ((t - vs.length) / p + 1) * p) 0 = INF then INF else vs.getD (t - ((t - vs.length) / p + 1) * p) 0 + ((t - vs.length) / p + 1 : Nat) * q := by
      simp only [val]; rw [if_neg (by omega)]
    rw [hval, e1]
    generalize (t - vs.length) / p = k at *
    have e3 : ((k : Int) + 1) * (p : Int) = ((k + 1) * p : Nat) := by push_cast; rfl
    have hkq := mul_bd (a := (k : Int) + 1) (b := q) (A := 1048577) (B := 1099511627776) (by omega) (by omega) (by omega) (by omega)
    have hv1 := hv ((t : Int) - ((k : Int) + 1) * p).toNat
    refine ⟨by omega, ?_⟩
    (repeat' (conv => whnf); first | refine aC (fun _ => ?_) (fun _ => ?_) | refine aS ?_ | refine aG ?_ | refine aD ?_ | refine aH ?_ | refine aP_R1 ?_ | refine aI ?_ | refine aJ ?_ | fail); all_goals try (conv => whnf)
    all_goals rw [show ((t : Int) - ((k : Int) + 1) * p).toNat = t - (k + 1) * p by omega] at *
    · exact ⟨rfl, by simp only [oneS]; rw [if_pos (by assumption)]⟩
    · exact ⟨rfl, by simp only [oneS]; rw [if_neg (by assumption)]; push_cast; rfl⟩
  · exact ⟨trivial, by simp only [oneS]; rw [val_lt (by omega)]⟩
end Go.Proofs.Ytifcdempdcolkab
