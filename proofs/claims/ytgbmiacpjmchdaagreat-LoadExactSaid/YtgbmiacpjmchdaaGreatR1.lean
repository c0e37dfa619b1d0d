/-
  A text of the proofs of this seat: lemmas that the statements' proofs use; it states nothing of the program by itself beyond the contracts that its theorems bear. Conditions: those that stand in each theorem. Its short name: R1 R2.
-/
import Derived.Test.YtgbmiacpjmchdaaGreatLib
import Derived.Test.YtgbmiacpjmchdaaGreatPl
set_option linter.unusedVariables false
set_option linter.unusedSimpArgs false
section
--APPX Go.Cv.vals_len
namespace Go.Proofs.YtgbmiacpjmchdaaGreat
open Go.Sx Go.Cv
set_option maxRecDepth 4000
theorem aP_R1 {A B K : Prop} (k : K) (a : A := by (simp only [zA, zT, zD, zC, zN, ints_len, zR, Go.Cv.vals_len]; omega)) (b : B := by (simp only [zA, zT, zD, zC, zN, ints_len, zR, Go.Cv.vals_len]; omega)) : (A ∧ B) ∧ K := ⟨⟨a, b⟩, k⟩
theorem Gcd_ok (a b : Int) (ha : 0 ≤ a) (hb : 0 ≤ b) : Ctr Tryz.prog 107 [i64 a, i64 b] [] (fun r o => o = [] ∧ r = i64 (Int.gcd a b)) := by
  refine fn_intro (E := env 0) tys_ok rfl rfl rfl Tryz.func107 (by kernel_rfl) rfl (by kernel_rfl) ?_
  (repeat' (conv => whnf); first | refine aC (fun _ => ?_) (fun _ => ?_) | refine aS ?_ | refine aG ?_ | refine aD ?_ | refine aH ?_ | refine aP_R1 ?_ | refine aI ?_ | refine aJ ?_ | fail); all_goals try (conv => whnf)
  obtain ⟨a, rfl⟩ := Int.eq_ofNat_of_zero_le ha
  obtain ⟨b, rfl⟩ := Int.eq_ofNat_of_zero_le hb
  refine LoopOb.mk (Y := Nat × Nat) (st := fun y => ⟨[(0, i64 y.1), (1, i64 y.2)], []⟩)
    (inv := fun y => Nat.gcd y.1 y.2 = Nat.gcd a b) (fun y => y.2) (a, b) [] rfl (by (exact aL)) ?_
  rintro ⟨x, y⟩ hg
  replace hg : Nat.gcd x y = Nat.gcd a b := hg
  (repeat' (conv => whnf); first | refine aC (fun _ => ?_) (fun _ => ?_) | refine aS ?_ | refine aG ?_ | refine aD ?_ | refine aH ?_ | refine aP_R1 ?_ | refine aI ?_ | refine aJ ?_ | refine aW (.qs [0, 1, 2, 3, 4, 5] .nil) ?_ | fail); all_goals try (conv => whnf)
  · have hy0 : (y : Int) ≠ 0 := by assumption
    have e : (x : Int).tmod y = (x % y : Nat) := by rw [Int.tmod_eq_emod_of_nonneg (by omega)]; rfl
    refine ⟨hy0, ?_⟩
    (repeat' (conv => whnf); first | refine aC (fun _ => ?_) (fun _ => ?_) | refine aS ?_ | refine aG ?_ | refine aD ?_ | refine aH ?_ | refine aP_R1 ?_ | refine aI ?_ | refine aJ ?_ | refine aW (.qs [0, 1, 2, 3, 4, 5] .nil) ?_ | fail); all_goals try (conv => whnf)
    refine ⟨(y, x % y), [], ?_, Nat.mod_lt _ (by omega), by (exact aL)⟩
    rw [← hg]
    simp only
    rw [Nat.gcd_comm x y, Nat.gcd_rec y x, Nat.gcd_comm]
  · have hy0 : ¬(y : Int) ≠ 0 := by assumption
    have : y = 0 := by omega
    subst this
    refine ⟨rfl, ?_⟩
    have : Int.gcd (a : Int) b = Nat.gcd a b := rfl
    rw [this, ← hg]
    simp [oneS]
theorem lcm_eq (a b : Nat) (ha : 1 ≤ a) : a / Nat.gcd a b * b = Nat.lcm a b := by
  rw [Nat.lcm, Nat.div_mul_right_comm (Nat.gcd_dvd_left a b)]
theorem Lcm_ok (a b : Nat) (ha : 1 ≤ a) (hb : 1 ≤ b) (ha2 : a ≤ 1000000) (hb2 : b ≤ 1000000) : Ctr Tryz.prog 103 [i64 a, i64 b] [] (fun r o => o = [] ∧ r = i64 (Nat.lcm a b)) := by
  refine fn_intro (E := env 0) tys_ok rfl rfl rfl Tryz.func103 (by kernel_rfl) rfl (by kernel_rfl) ?_
  (repeat' (conv => whnf); first | refine aC (fun _ => ?_) (fun _ => ?_) | refine aS ?_ | refine aG ?_ | refine aD ?_ | refine aH ?_ | refine aP_R1 ?_ | refine aI ?_ | refine aJ ?_ | fail); all_goals try (conv => whnf)
  refine CallOb.mk [] (Gcd_ok _ _ (by omega) (by omega)) rfl (ImpL.refl _) rfl rfl ?_
  rintro _ _ ⟨rfl, rfl⟩
  (repeat' (conv => whnf); first | refine aC (fun _ => ?_) (fun _ => ?_) | refine aS ?_ | refine aG ?_ | refine aD ?_ | refine aH ?_ | refine aP_R1 ?_ | refine aI ?_ | refine aJ ?_ | fail); all_goals try (conv => whnf)
  have hg : 1 ≤ Nat.gcd a b := Nat.gcd_pos_of_pos_left b (by omega)
  have e0 : Int.gcd (a : Int) b = Nat.gcd a b := rfl
  rw [e0]
  refine ⟨by omega, ?_⟩
  have e : (a : Int).tdiv (Nat.gcd a b : Nat) = (a / Nat.gcd a b : Nat) := by
    rw [Int.tdiv_eq_ediv_of_nonneg (by omega)]; rfl
  have h1 := Nat.div_le_self a (Nat.gcd a b)
  have h2 : a / Nat.gcd a b * b ≤ 1000000 * 1000000 := Nat.mul_le_mul (by omega) hb2
  rw [e]
  have e2 : a / Nat.gcd a b * b = Nat.lcm a b := lcm_eq a b ha
  generalize a / Nat.gcd a b = d at *
  have h3 : ((d : Int) * (b : Int)) = ((d * b : Nat) : Int) := by push_cast; rfl
  have h4 : (0 : Int) ≤ (d : Int) * (b : Int) ∧ (d : Int) * (b : Int) ≤ 1000000000000 := by rw [h3]; omega
  (repeat' (conv => whnf); first | refine aC (fun _ => ?_) (fun _ => ?_) | refine aS ?_ | refine aG ?_ | refine aD ?_ | refine aH ?_ | refine aP_R1 ?_ | refine aI ?_ | refine aJ ?_ | fail); all_goals try (conv => whnf)
  refine ⟨rfl, ?_⟩
  simp only [oneS]
  rw [← e2, h3]
structure Bd (vs : List Int) (p : Nat) (q : Int) : Prop where
  p1 : 1 ≤ p
  pn : p ≤ vs.length
  n : vs.length ≤ 2000
  q0 : 0 ≤ q
  q1 : q ≤ 1099511627776
  v : ∀ j, 0 ≤ vs.getD j 0 ∧ vs.getD j 0 ≤ 4611686018427387904
theorem at_idx {n p t : Nat} (ht : n ≤ t) (hp : 1 ≤ p) (hp2 : p ≤ n) : ((t - n) / p + 1) * p ≤ t ∧ t - ((t - n) / p + 1) * p < n ∧ n - p ≤ t - ((t - n) / p + 1) * p := by
  have h1 := Nat.div_add_mod (t - n) p
  have h2 := Nat.mod_lt (t - n) hp
  have h3 : ((t - n) / p + 1) * p = p * ((t - n) / p) + p := by rw [Nat.add_mul, Nat.one_mul, Nat.mul_comm]
  omega
theorem mul_bd {a b A B : Int} (ha : 0 ≤ a) (ha2 : a ≤ A) (hb : 0 ≤ b) (hb2 : b ≤ B) : 0 ≤ a * b ∧ a * b ≤ A * B :=
  ⟨Int.mul_nonneg ha hb, Int.mul_le_mul ha2 hb2 hb (by omega)⟩
theorem At_ok (vs : List Int) (p : Nat) (q t : Int) (hb : Bd vs p q) (ht : 0 ≤ t) (ht2 : t ≤ 1048576) :
    Ctr Tryz.prog 78 [crv vs p q, i64 t] [] (fun r o => o = [] ∧ r = i64 (val vs p q t.toNat)) := by
  obtain ⟨p1, pn, hn, q0, q1, hv⟩ := hb
  obtain ⟨t, rfl⟩ := Int.eq_ofNat_of_zero_le ht
  simp only [Int.toNat_natCast]
  refine fn_intro (E := env 0) tys_ok rfl rfl rfl Tryz.func78 (by kernel_rfl) rfl (by kernel_rfl) ?_
  (repeat' (conv => whnf); first | refine aC (fun _ => ?_) (fun _ => ?_) | refine aS ?_ | refine aG ?_ | refine aD ?_ | refine aH ?_ | refine aP_R1 ?_ | refine aI ?_ | refine aJ ?_ | fail); all_goals try (conv => whnf)
  all_goals try (simp only [ints_len] at *)
  all_goals try omega
  · have hle : vs.length ≤ t := by omega
    have e1 : ((t : Int) - vs.length).tdiv p = ((t - vs.length) / p : Nat) := by
      rw [Int.tdiv_eq_ediv_of_nonneg (by omega)]
      push_cast [Int.ofNat_sub hle]; rfl
    have hx := at_idx hle p1 pn
    have hd : (t - vs.length) / p ≤ t - vs.length := Nat.div_le_self _ _
    have hval : val vs p q t = if vs.getD (t - ((t - vs.length) / p + 1) * p) 0 = INF then INF else vs.getD (t - ((t - vs.length) / p + 1) * p) 0 + ((t - vs.length) / p + 1 : Nat) * q := by
      simp only [val]; rw [if_neg (by omega)]
    rw [hval, e1]
    generalize (t - vs.length) / p = k at *
    have e3 : ((k : Int) + 1) * (p : Int) = ((k + 1) * p : Nat) := by push_cast; rfl
    have hkq := mul_bd (a := (k : Int) + 1) (b := q) (A := 1048577) (B := 1099511627776) (by omega) (by omega) (by omega) (by omega)
    have hv1 := hv ((t : Int) - ((k : Int) + 1) * p).toNat
    refine ⟨by omega, ?_⟩
    (repeat' (conv => whnf); first | refine aC (fun _ => ?_) (fun _ => ?_) | refine aS ?_ | refine aG ?_ | refine aD ?_ | refine aH ?_ | refine aP_R1 ?_ | refine aI ?_ | refine aJ ?_ | fail); all_goals try (conv => whnf)
    all_goals rw [show ((t : Int) - ((k : Int) + 1) * p).toNat = t - (k + 1) * p by omega] at *
    · exact ⟨rfl, by simp only [oneS]; rw [if_pos (by assumption)]⟩
    · exact ⟨rfl, by simp only [oneS]; rw [if_neg (by assumption)]; push_cast; rfl⟩
  · exact ⟨trivial, by simp only [oneS]; rw [val_lt (by omega)]⟩
end Go.Proofs.YtgbmiacpjmchdaaGreat
end
section
--APPX Go.Cv.vals_len
namespace Go.Proofs.YtgbmiacpjmchdaaGreat
open Go.Sx Go.Cv
set_option maxRecDepth 4000
theorem val_bd {vs : List Int} {p : Nat} {q : Int} (hb : Bd vs p q) {t : Nat} (ht : t ≤ 1048576) : 0 ≤ val vs p q t ∧ val vs p q t ≤ 6000000000000000000 := by
  obtain ⟨p1, pn, hn, q0, q1, hv⟩ := hb
  by_cases h : t < vs.length
  · rw [val_lt h]; have := hv t; omega
  · simp only [val]
    rw [if_neg h]
    have hd : (t - vs.length) / p ≤ t - vs.length := Nat.div_le_self _ _
    generalize (t - vs.length) / p = k at *
    have hkq := mul_bd (a := ((k + 1 : Nat) : Int)) (b := q) (A := 1048577) (B := 1099511627776) (by omega) (by omega) (by omega) (by omega)
    have hv1 := hv (t - (k + 1) * p)
    split <;> omega
theorem aP_R2 {A B K : Prop} (k : K) (a : A := by (simp only [zA, zT, zD, zC, zN, ints_len, zR, Go.Cv.vals_len]; omega)) (b : B := by (simp only [zA, zT, zD, zC, zN, ints_len, zR, Go.Cv.vals_len]; omega)) : (A ∧ B) ∧ K := ⟨⟨a, b⟩, k⟩
theorem periodic_ok (vs : List Int) (P : Nat) (Q : Int) (s p : Nat) (hb : Bd vs P Q) (hp : 1 ≤ p) (hpP : p ≤ P) (hs : s ≤ 10000) :
    Ctr Tryz.prog 111 [crv vs P Q, i64 s, i64 p] [] (fun r o => o = [] ∧ r = .bp (Fits (val vs P Q) s P Q p)) := by
  refine Ctr.imp ?_
  have p1 := hb.p1
  have pn := hb.pn
  have hn := hb.n
  have q0 := hb.q0
  have q1 := hb.q1
  have hQp := mul_bd (a := Q) (b := (p : Int)) (A := 1099511627776) (B := 2000) (by omega) (by omega) (by omega) (by omega)
  have hd := tdiv_bd (a := Q * p) (b := (P : Int)) (by omega) (by omega)
  have hm := tmod_bd (a := Q * p) (b := (P : Int)) (by omega) (by omega)
  have hm2 : (P : Int).tmod p = ((P % p : Nat) : Int) := by rw [Int.tmod_eq_emod_of_nonneg (by omega)]; rfl
  refine fn_intro (E := env 0) tys_ok rfl rfl rfl Tryz.func111 (by kernel_rfl) rfl (by kernel_rfl) ?_
  (repeat' (conv => whnf); first | refine aC (fun _ => ?_) (fun _ => ?_) | refine aS ?_ | refine aG ?_ | refine aD ?_ | refine aH ?_ | refine aP_R2 ?_ | refine aI ?_ | refine aJ ?_ | fail); all_goals try (conv => whnf)
  refine ⟨by omega, ?_⟩
  rw [hm2]
  (repeat' (conv => whnf); first | refine aC (fun _ => ?_) (fun _ => ?_) | refine aS ?_ | refine aG ?_ | refine aD ?_ | refine aH ?_ | refine aP_R2 ?_ | refine aI ?_ | refine aJ ?_ | fail); all_goals try (conv => whnf)
  · exact ⟨rfl, Imp.bl ⟨fun h => (by cases h), fun h => by have := h.1; omega⟩⟩
  refine ⟨by omega, ?_⟩
  rw [hm.1]
  (repeat' (conv => whnf); first | refine aC (fun _ => ?_) (fun _ => ?_) | refine aS ?_ | refine aG ?_ | refine aD ?_ | refine aH ?_ | refine aP_R2 ?_ | refine aI ?_ | refine aJ ?_ | fail); all_goals try (conv => whnf)
  · exact ⟨rfl, Imp.bl ⟨fun h => (by cases h), fun h => by have := h.2.1; omega⟩⟩
  refine LoopOb.mk (Y := Nat) (st := fun j => ⟨[(1, i64 s), (2, i64 p), (3, .ptr 0 0), (7, i64 j)], [.box [.psl 1 (ints vs), i64 P, i64 Q]]⟩)
    (inv := fun j => s ≤ j ∧ j ≤ s + P ∧ ∀ t, s ≤ t → t < j → val vs P Q (t + p) = val vs P Q t + Q * p / P) (fun j => s + P - j) s [0] ⟨by omega, by omega, fun t h1 h2 => by omega⟩ (by (exact aL)) ?_
  rintro j ⟨h1, h2, h3⟩
  (repeat' (conv => whnf); first | refine aC (fun _ => ?_) (fun _ => ?_) | refine aS ?_ | refine aG ?_ | refine aD ?_ | refine aH ?_ | refine aP_R2 ?_ | refine aI ?_ | refine aJ ?_ | refine aW (.qs [0, 1, 2, 3, 5, 6, 8, 9, 10, 11, 12, 13, 14] (.l 4 [13, 9, 5] (.l 7 [13, 9] (.qs [15, 16] .nil) .no) .no)) ?_ | fail); all_goals try (conv => whnf)
  · refine ⟨by omega, ?_⟩
    rw [hd.1]
    (repeat' (conv => whnf); first | refine aC (fun _ => ?_) (fun _ => ?_) | refine aS ?_ | refine aG ?_ | refine aD ?_ | refine aH ?_ | refine aP_R2 ?_ | refine aI ?_ | refine aJ ?_ | fail); all_goals try (conv => whnf)
    refine CallOb.mk [] (At_ok _ _ _ _ hb (by omega) (by omega)) rfl (ImpL.refl _) rfl rfl ?_
    rintro _ _ ⟨rfl, rfl⟩
    (repeat' (conv => whnf); first | refine aC (fun _ => ?_) (fun _ => ?_) | refine aS ?_ | refine aG ?_ | refine aD ?_ | refine aH ?_ | refine aP_R2 ?_ | refine aI ?_ | refine aJ ?_ | fail); all_goals try (conv => whnf)
    refine CallOb.mk [] (At_ok _ _ _ _ hb (by omega) (by omega)) rfl (ImpL.refl _) rfl rfl ?_
    rintro _ _ ⟨rfl, rfl⟩
    rw [show ((j : Int) + p).toNat = j + p by omega]
    simp only [Int.toNat_natCast]
    have b1 := val_bd hb (t := j) (by omega)
    have b2 := val_bd hb (t := j + p) (by omega)
    (repeat' (conv => whnf); first | refine aC (fun _ => ?_) (fun _ => ?_) | refine aS ?_ | refine aG ?_ | refine aD ?_ | refine aH ?_ | refine aP_R2 ?_ | refine aI ?_ | refine aJ ?_ | fail); all_goals try (conv => whnf)
    · exact ⟨rfl, Imp.bl ⟨fun h => (by cases h), fun h => absurd (h.2.2 j h1 (by omega)) (by assumption)⟩⟩
    · refine ⟨j + 1, [0], ⟨by omega, by omega, fun t ht1 ht2 => ?_⟩, by omega, by (exact aL)⟩
      by_cases htj : t = j
      · subst htj
        exact Classical.not_not.1 (by assumption)
      · exact h3 t ht1 (by omega)
  · exact ⟨rfl, Imp.bl ⟨fun _ => ⟨by omega, by omega, fun t ht1 ht2 => h3 t ht1 (by omega)⟩, fun _ => rfl⟩⟩
end Go.Proofs.YtgbmiacpjmchdaaGreat
end
