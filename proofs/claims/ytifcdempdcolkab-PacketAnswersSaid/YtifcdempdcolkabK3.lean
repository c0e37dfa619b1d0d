/-
  A text of the proofs of this seat: lemmas that the statements' proofs use; it states nothing of the program by itself beyond the contracts that its theorems bear. Conditions: those that stand in each theorem. Its short name: K3.
-/
import Derived.Test.YtifcdempdcolkabK2
set_option linter.unusedVariables false
set_option linter.unusedSimpArgs false
namespace Go.Proofs.Ytifcdempdcolkab
open Go.Sx Go.Cv
set_option maxRecDepth 4000
set_option maxHeartbeats 2000000
theorem longP_vf {vs : List Int} {p : Nat} {q : Int} {more times : Nat} (h : VF vs p q) (hq : q ≤ 1000) (hv : ∀ j < vs.length, vs.getD j 0 = INF ∨ vs.getD j 0 ≤ 1000000) (ht : 1 ≤ times) (hpt : p * times ≤ 120) (hn : vs.length + (more + (times - 1) * p) ≤ 400)
    {x : List Int × Nat × Int} (hx : LongP vs p q more times x) : VC x ∧ (∀ t, cv x t = val vs p q t) ∧ (FinC x ↔ FinC (vs, p, q)) ∧ x.1.length ≤ vs.length + (more + (times - 1) * p) ∧ x.2.1 ≤ p * times := by
  have p1 := h.p1
  have pn := h.pn
  have n1 := h.n1
  unfold LongP at hx
  by_cases hf : FinC (vs, p, q)
  · rw [if_pos hf] at hx
    subst hx
    have hmo := h.mono'
    have hper := h.per.mul times
    generalize hN : vs.length + (more + (times - 1) * p) = N at *
    have htp : times * p = (times - 1) * p + p := by
      conv => lhs; rw [show times = times - 1 + 1 by omega, Nat.add_mul, Nat.one_mul]
    have hpt' : p * times = times * p := Nat.mul_comm _ _
    have hp1 : 1 * 1 ≤ p * times := Nat.mul_le_mul p1 ht
    have hpe : p * times = (times - 1) * p + p := by rw [hpt', htp]
    have hNp : p * times ≤ N := by omega
    have hs : vs.length - p ≤ N - p * times := by omega
    have hs2 : N - p * times + times * p = N := by rw [← hpt']; omega
    have hq0 : 0 ≤ (times : Int) * q := Int.mul_nonneg (by omega) h.q0
    have hq1 : (times : Int) * q ≤ 120 * 1000 := Int.mul_le_mul (by
      have : 1 * times ≤ p * times := Nat.mul_le_mul_right _ p1
      omega) hq h.q0 (by omega)
    have hvb : ∀ t, t < N → val vs p q t ≤ 1073741824 := by
      intro t ht
      have h1 := h.val_le hf t
      by_cases hlt : t < vs.length
      · rw [val_lt hlt]
        have := h.v t hlt
        have := h.noinf hf t hlt
        simp only [INF] at *; omega
      · -- below the first values and some gains
        have key : ∀ t, val vs p q t ≤ 1000000 + t * q := by
          intro t
          induction t using Nat.strongRecOn with
          | _ t ih =>
            by_cases hlt : t < vs.length
            · rw [val_lt hlt]
              have h2 := hv t hlt
              have h3 := h.noinf hf t hlt
              have : 0 ≤ (t : Int) * q := Int.mul_nonneg (by omega) h.q0
              simp only [INF] at *; omega
            · have e := h.per (t - p) (by omega)
              rw [show t - p + p = t by omega] at e
              have h2 := ih (t - p) (by omega)
              have h3 : ((t - p : Nat) : Int) * q + q ≤ t * q := by
                have h4 : ((t - p : Nat) + 1 : Int) * q ≤ (t : Int) * q := Int.mul_le_mul_of_nonneg_right (by omega) h.q0
                rw [Int.add_mul, Int.one_mul] at h4; exact h4
              omega
        have h2 := key t
        have h3 : (t : Int) * q ≤ 400 * 1000 := Int.mul_le_mul (by omega) hq h.q0 (by omega)
        omega
    have hlen : (vals (val vs p q) N).length = N := vals_len _ _
    have hfin : FinC (vals (val vs p q) N, p * times, q * (times : Int)) := by
      unfold FinC
      simp only
      rw [hlen, vals_get (by omega)]
      have := hvb (N - 1) (by omega)
      simp only [INF]; omega
    have hVF : VF (vals (val vs p q) N) (p * times) (q * (times : Int)) := by
      refine ⟨by omega, by omega, ?_, hpt, by omega, by rw [Int.mul_comm]; exact hq0, by rw [Int.mul_comm]; omega, ?_, ?_, fun e => absurd e hfin, ?_⟩
      · have : 1 * 1 ≤ p * times := Nat.mul_le_mul p1 ht
        omega
      · intro j hj
        rw [hlen] at hj
        rw [vals_get hj]
        exact .inr ⟨h.nonneg j, hvb j hj⟩
      · intro j k hjk hk
        rw [hlen] at hk
        rw [vals_get (by omega), vals_get hk]; exact hmo.le hjk
      · intro _
        rw [hlen, vals_get (show N - p * times < N by omega), vals_get (show N - 1 < N by omega)]
        have e := hper (N - p * times) hs
        rw [hs2] at e
        have := hmo.le (show N - 1 ≤ N by omega)
        rw [Int.mul_comm q]
        omega
    refine ⟨hVF, fun t => ?_, ⟨fun _ => hf, fun _ => hfin⟩, by simp only; omega, Nat.le_refl _⟩
    refine val_of_per (by omega) (by rw [hlen]; exact hNp) (fun t ht => ?_) (fun k hk => hVF.noinf hfin k hk) ?_ t
    · rw [hlen] at ht; rw [vals_get ht]
    · rw [hlen, Int.mul_comm q]
      have hper2 := hper.mono hs
      rw [← hpt'] at hper2; exact hper2
  · rw [if_neg hf] at hx
    subst hx
    refine ⟨h, fun _ => rfl, Iff.rfl, by simp only; omega, ?_⟩
    simp only
    have : p * 1 ≤ p * times := Nat.mul_le_mul_left _ ht
    omega
/- what the generator makes -/
structure CurveP (most : Nat) (x : C3) : Prop where
  v : VC x
  n : x.1.length ≤ most + 12
  p : x.2.1 ≤ 8
  s : FinC x → ∀ t, cv x (t + 1) ≤ cv x t + 9
  b : ∃ b : C3, VC b ∧ (∀ t, cv x t = cv b t) ∧ (FinC x ↔ FinC b) ∧ b.1.length ≤ most + 1 ∧ b.2.1 ≤ 4 ∧ b.2.2 ≤ 35 ∧ ∀ j < b.1.length, b.1.getD j 0 = INF ∨ b.1.getD j 0 ≤ 9 * most + 3
  z : cv x 0 ≤ 9 * most + 3
theorem cv_zero {x : C3} (h : VC x) : cv x 0 = x.1.getD 0 0 := by unfold cv; rw [val_lt h.n1]
theorem step_of {b : C3} (hb : VC b) (h1 : ∀ j, j + 1 < b.1.length → b.1.getD (j + 1) 0 ≤ b.1.getD j 0 + 9) (h2 : b.1.getD (b.1.length - b.2.1) 0 + b.2.2 ≤ b.1.getD (b.1.length - 1) 0 + 9) : ∀ t, cv b (t + 1) ≤ cv b t + 9 := by
  have hper := hb.per
  have p1 := hb.p1
  have pn := hb.pn
  intro t
  induction t using Nat.strongRecOn with
  | _ t ih =>
    by_cases h3 : t + 1 < b.1.length
    · unfold cv; rw [val_lt h3, val_lt (by omega)]; exact h1 t h3
    · by_cases h4 : t + 1 = b.1.length
      · have e := hper (b.1.length - b.2.1) (by omega)
        unfold cv
        rw [show t + 1 = b.1.length - b.2.1 + b.2.1 by omega, e, val_lt (show b.1.length - b.2.1 < b.1.length by omega), show t = b.1.length - 1 by omega, val_lt (show b.1.length - 1 < b.1.length by omega)]
        exact h2
      · have e1 := hper (t + 1 - b.2.1) (by omega)
        have e2 := hper (t - b.2.1) (by omega)
        have h5 := ih (t - b.2.1) (by omega)
        rw [show t + 1 - b.2.1 + b.2.1 = t + 1 by omega] at e1
        rw [show t - b.2.1 + b.2.1 = t by omega] at e2
        rw [show t - b.2.1 + 1 = t + 1 - b.2.1 by omega] at h5
        unfold cv at *
        omega
structure Run (l : List Int) (v : Int) : Prop where
  e : ∀ j < l.length, 0 ≤ l.getD j 0 ∧ l.getD j 0 ≤ v
  m : ∀ j k, j ≤ k → k < l.length → l.getD j 0 ≤ l.getD k 0
  b : v ≤ 9 * l.length + 3
  v0 : 0 ≤ v
  s : ∀ j < l.length, v ≤ l.getD j 0 + 9 * ((l.length : Int) - j)
  t : ∀ j k, j ≤ k → k < l.length → l.getD k 0 ≤ l.getD j 0 + 9 * ((k : Int) - j)
theorem Run.nil {v : Int} (h : 0 ≤ v) (h2 : v ≤ 3) : Run [] v := ⟨fun j hj => by simp at hj, fun j k _ hk => by simp at hk, by simp; omega, h, fun j hj => by simp at hj, fun j k _ hk => by simp at hk⟩
theorem getD_snoc_lt {l : List Int} {x : Int} {j : Nat} (h : j < l.length) : (l ++ [x]).getD j 0 = l.getD j 0 := by
  rw [List.getD_eq_getElem?_getD, List.getElem?_append_left h, List.getD_eq_getElem?_getD]
theorem getD_snoc_eq {l : List Int} {x : Int} : (l ++ [x]).getD l.length 0 = x := by simp
theorem Run.snoc {l : List Int} {v d : Int} (h : Run l v) (hd : 0 ≤ d) (hd2 : d ≤ 9) : Run (l ++ [v]) (v + d) := by
  have hv := h.v0
  have hb := h.b
  refine ⟨fun j hj => ?_, fun j k hjk hk => ?_, by rw [List.length_append]; simp; omega, by omega, fun j hj => ?_, fun j k hjk hk => ?_⟩
  · rw [List.length_append, List.length_singleton] at hj
    by_cases e : j = l.length
    · subst e; rw [getD_snoc_eq]; omega
    · rw [getD_snoc_lt (by omega)]; have := h.e j (by omega); omega
  · rw [List.length_append, List.length_singleton] at hk
    by_cases e : k = l.length
    · subst e; rw [getD_snoc_eq]
      by_cases e2 : j = l.length
      · subst e2; rw [getD_snoc_eq]; omega
      · rw [getD_snoc_lt (by omega)]; have := h.e j (by omega); omega
    · rw [getD_snoc_lt (by omega), getD_snoc_lt (by omega)]; exact h.m j k hjk (by omega)
  · rw [List.length_append, List.length_singleton] at hj ⊢
    by_cases e : j = l.length
    · subst e; rw [getD_snoc_eq]; push_cast; omega
    · rw [getD_snoc_lt (by omega)]; have := h.s j (by omega); push_cast; omega
  · rw [List.length_append, List.length_singleton] at hk
    by_cases e : k = l.length
    · subst e; rw [getD_snoc_eq]
      by_cases e2 : j = l.length
      · subst e2; rw [getD_snoc_eq]; omega
      · rw [getD_snoc_lt (by omega)]; exact h.s j (by omega)
    · rw [getD_snoc_lt (by omega), getD_snoc_lt (by omega)]; exact h.t j k hjk (by omega)
theorem base_vf {l : List Int} {v q d : Int} {pp most : Nat} (h : Run l v) (h1 : 1 ≤ l.length) (h2 : l.length ≤ most) (hm : most ≤ 100) (hp : 1 ≤ pp) (hp4 : pp ≤ 4) (hpn : pp ≤ l.length) (hd : 0 ≤ d) (hd8 : d ≤ 8)
    (hq : l.getD (l.length - 1) 0 - l.getD (l.length - pp) 0 + d = q) : VF l pp q ∧ q ≤ 35 ∧ FinC (l, pp, q) ∧ (∀ j < l.length, l.getD j 0 ≤ 9 * most + 3) ∧ ∀ t, cv (l, pp, q) (t + 1) ≤ cv (l, pp, q) t + 9 := by
  have hb := h.b
  have hm1 := h.m (l.length - pp) (l.length - 1) (by omega) (by omega)
  have ht := h.t (l.length - pp) (l.length - 1) (by omega) (by omega)
  have hle : ∀ j < l.length, l.getD j 0 ≤ 9 * most + 3 := fun j hj => by have := h.e j hj; omega
  have hf : FinC (l, pp, q) := by
    unfold FinC; simp only
    have := hle (l.length - 1) (by omega)
    simp only [INF]; omega
  have hvf : VF l pp q := ⟨h1, by omega, hp, by omega, hpn, by omega, by omega, fun j hj => .inr ⟨(h.e j hj).1, by have := hle j hj; omega⟩, h.m, fun e => absurd e hf, fun _ => by omega⟩
  refine ⟨hvf, by omega, hf, hle, step_of (b := (l, pp, q)) hvf (fun j hj => ?_) (by simp only; omega)⟩
  have := h.t j (j + 1) (by omega) hj
  simp only
  omega
theorem inf_vf {l : List Int} {v : Int} {most : Nat} (h : Run l v) (h1 : 1 ≤ l.length) (h2 : l.length ≤ most) (hm : most ≤ 100) :
    VF (l ++ [INF]) 1 0 ∧ ¬FinC (l ++ [INF], 1, 0) ∧ ∀ j < (l ++ [INF]).length, (l ++ [INF]).getD j 0 = INF ∨ (l ++ [INF]).getD j 0 ≤ 9 * most + 3 := by
  have hb := h.b
  have hle : ∀ j < l.length, l.getD j 0 ≤ 9 * most + 3 := fun j hj => by have := h.e j hj; omega
  have hlen : (l ++ [INF]).length = l.length + 1 := by simp
  have key : ∀ j < l.length + 1, (j = l.length ∧ (l ++ [INF]).getD j 0 = INF) ∨ (j < l.length ∧ (l ++ [INF]).getD j 0 = l.getD j 0) := by
    intro j hj
    by_cases e : j = l.length
    · subst e; exact .inl ⟨rfl, getD_snoc_eq⟩
    · exact .inr ⟨by omega, getD_snoc_lt (by omega)⟩
  refine ⟨⟨by omega, by omega, by omega, by omega, by omega, by omega, by omega, fun j hj => ?_, fun j k hjk hk => ?_, fun _ => ⟨rfl, rfl⟩, fun e => ?_⟩, fun e => e (by simp only; rw [hlen, Nat.add_sub_cancel]; exact getD_snoc_eq), fun j hj => ?_⟩
  · rcases key j (by omega) with ⟨_, e⟩ | ⟨h3, e⟩
    · exact .inl e
    · rw [e]; have := hle j h3; have := h.e j h3; exact .inr ⟨by omega, by omega⟩
  · rcases key j (by omega) with ⟨h3, e⟩ | ⟨h3, e⟩
    · rcases key k (by omega) with ⟨h4, e'⟩ | ⟨h4, e'⟩
      · rw [e, e']; exact Int.le_refl _
      · omega
    · rcases key k (by omega) with ⟨h4, e'⟩ | ⟨h4, e'⟩
      · rw [e, e']; have := hle j h3; simp only [INF]; omega
      · rw [e, e']; exact h.m j k hjk h4
  · exfalso; apply e; rw [hlen, Nat.add_sub_cancel]; exact getD_snoc_eq
  · rcases key j (by omega) with ⟨_, e⟩ | ⟨h3, e⟩
    · exact .inl e
    · rw [e]; exact .inr (hle j h3)
theorem aP_K3 {A B K : Prop} (k : K) (a : A := by (simp only [zA, zT, zD, zC, zN, ints_len, zR, Go.Cv.vals_len]; omega)) (b : B := by (simp only [zA, zT, zD, zC, zN, ints_len, zR, Go.Cv.vals_len]; omega)) : (A ∧ B) ∧ K := ⟨⟨a, b⟩, k⟩
theorem Curve_ok (L : List Int) (k : Nat) (hL : L.length ≤ 2000) (hk : k ≤ 2000) (most : Nat) (hm : 1 ≤ most) (hm2 : most ≤ 100) :
    Ctr Try.prog 8 [.ptr 0 0, i64 most] [src L k] (fun r o => ∃ x : C3 × Nat, (CurveP most x.1 ∧ x.2 ≤ 2000) ∧ o = [src L x.2] ∧ Imp r (crv x.1.1 x.1.2.1 x.1.2.2)) := by
  refine fn_intro (E := env 1) tys_ok rfl rfl rfl Try.func8 (by kernel_rfl) rfl (by kernel_rfl) ?_
  (repeat' (conv => whnf); first | (refine aC (fun _ => ?_) (fun _ => ?_) <;> try (exfalso; omega)) | refine aS ?_ | refine aG ?_ | refine aD ?_ | refine aH ?_ | refine aP_K3 ?_ | refine aI ?_ | refine aJ ?_ | refine aW (.qs [0, 1, 2, 3, 4, 5, 6, 7, 8, 9, 10, 11, 12, 13, 14, 15] (.l 16 [13, 10, 7, 5, 1] (.l 17 [13, 10, 7, 5, 1] (.qs [18, 19] (.l 20 [] .nil .no)) .no) .no)) ?_ | refine aW (.qs [0, 1, 3] (.l 2 [0] (.l 4 [0] (.qs [5] (.l 6 [] (.l 7 [] .nil .no) .no)) .no) .no)) ?_ | fail); all_goals try (conv => whnf)
  refine CallOb.mk [0] (N_ok L k hL hk most (by omega) (by omega)) rfl (ImpL.refl _) rfl rfl ?_
  rintro _ _ ⟨⟨v1, k1⟩, ⟨hv1, hv1', hk1⟩, rfl, rfl⟩
  dsimp only at hv1 hv1' hk1 ⊢
  (repeat' (conv => whnf); first | (refine aC (fun _ => ?_) (fun _ => ?_) <;> try (exfalso; omega)) | refine aS ?_ | refine aG ?_ | refine aD ?_ | refine aP_K3 ?_ | refine aI ?_ | refine aJ ?_ | refine aW (.qs [0, 1, 2, 3, 4, 5, 6, 7, 8, 9, 10, 11, 12, 13, 14, 15] (.l 16 [13, 10, 7, 5, 1] (.l 17 [13, 10, 7, 5, 1] (.qs [18, 19] (.l 20 [] .nil .no)) .no) .no)) ?_ | refine aW (.qs [0, 1, 3] (.l 2 [0] (.l 4 [0] (.qs [5] (.l 6 [] (.l 7 [] .nil .no) .no)) .no) .no)) ?_ | fail); all_goals try (conv => whnf)
  refine .mk [] ?_
  refine CallOb.mk [0] (N_ok L k1 hL hk1 (min (1 + v1) 4) (by omega) (by omega)) rfl (ImpL.refl _) rfl rfl ?_
  rintro _ _ ⟨⟨v2, k2⟩, ⟨hv2, hv2', hk2⟩, rfl, rfl⟩
  dsimp only at hv2 hv2' hk2 ⊢
  (repeat' (conv => whnf); first | (refine aC (fun _ => ?_) (fun _ => ?_) <;> try (exfalso; omega)) | refine aS ?_ | refine aG ?_ | refine aD ?_ | refine aP_K3 ?_ | refine aI ?_ | refine aJ ?_ | refine aW (.qs [0, 1, 2, 3, 4, 5, 6, 7, 8, 9, 10, 11, 12, 13, 14, 15] (.l 16 [13, 10, 7, 5, 1] (.l 17 [13, 10, 7, 5, 1] (.qs [18, 19] (.l 20 [] .nil .no)) .no) .no)) ?_ | refine aW (.qs [0, 1, 3] (.l 2 [0] (.l 4 [0] (.qs [5] (.l 6 [] (.l 7 [] .nil .no) .no)) .no) .no)) ?_ | fail); all_goals try (conv => whnf)
  refine .mk [.fz 3] ?_
  refine CallOb.mk [0] (Pick_ok L k2 hL hk2 [0, 0, 0, 3] (by simp) (by simp)) rfl (ImpL.refl _) rfl rfl ?_
  rintro _ _ ⟨⟨v3, k3⟩, ⟨hv3, hk3⟩, rfl, rfl⟩
  dsimp only at hv3 hk3 ⊢
  (repeat' (conv => whnf); first | (refine aC (fun _ => ?_) (fun _ => ?_) <;> try (exfalso; omega)) | refine aS ?_ | refine aG ?_ | refine aD ?_ | refine aP_K3 ?_ | refine aI ?_ | refine aJ ?_ | refine aW (.qs [0, 1, 2, 3, 4, 5, 6, 7, 8, 9, 10, 11, 12, 13, 14, 15] (.l 16 [13, 10, 7, 5, 1] (.l 17 [13, 10, 7, 5, 1] (.qs [18, 19] (.l 20 [] .nil .no)) .no) .no)) ?_ | refine aW (.qs [0, 1, 3] (.l 2 [0] (.l 4 [0] (.qs [5] (.l 6 [] (.l 7 [] .nil .no) .no)) .no) .no)) ?_ | fail); all_goals try (conv => whnf)
  refine .mk [.nb 2 0 1] ?_
  obtain ⟨n, hn⟩ : ∃ n : Nat, (1 + v1 : Int) = n := ⟨(1 + v1).toNat, by omega⟩
  obtain ⟨pp, hpp⟩ : ∃ pp : Nat, (1 + v2 : Int) = pp := ⟨(1 + v2).toNat, by omega⟩
  have hnb : 1 ≤ n ∧ n ≤ most := by omega
  have hpb : 1 ≤ pp ∧ pp ≤ 4 ∧ pp ≤ n := by omega
  have hv30 : v3 = 0 ∨ v3 = 3 := by simp at hv3; omega
  simp only [hn, hpp]
  refine LoopOb.mk (Y := List Int × Int × Nat) (st := fun y => ⟨[(8, i64 y.1.length), (7, i64 y.2.1), (6, .ptr 2 0), (5, i64 n), (4, .ptr 1 0), (0, .ptr 0 0)], [src L y.2.2, .box [.nil, i64 0, i64 0], .box [.vec 3, i64 pp, i64 0], .vec 1 (ints y.1)]⟩)
    (inv := fun y => y.1.length ≤ n ∧ Run y.1 y.2.1 ∧ y.2.2 ≤ 2000) (fun y => n - y.1.length) ([], v3, k3) [0, 1, 2, 4] ⟨by simp, Run.nil (v := v3) (by omega) (by omega), hk3⟩ (by (exact aL)) ?_
  rintro ⟨l, v, k4⟩ ⟨hl, hr, hk4⟩
  dsimp only at hl hr hk4 ⊢
  have hrb := hr.b
  have hr0 := hr.v0
  (repeat' (conv => whnf); first | (refine aC (fun _ => ?_) (fun _ => ?_) <;> try (exfalso; omega)) | refine aS ?_ | refine aG ?_ | refine aD ?_ | refine aP_K3 ?_ | refine aI ?_ | refine aJ ?_ | refine aW (.qs [0, 1, 2, 3, 4, 5, 6, 7, 8, 9, 10, 11, 12, 13, 14, 15] (.l 16 [13, 10, 7, 5, 1] (.l 17 [13, 10, 7, 5, 1] (.qs [18, 19] (.l 20 [] .nil .no)) .no) .no)) ?_ | refine aW (.qs [0, 1, 3] (.l 2 [0] (.l 4 [0] (.qs [5] (.l 6 [] (.l 7 [] .nil .no) .no)) .no) .no)) ?_ | fail); all_goals try (conv => whnf)
  · refine .mk [.fz 6] ?_
    refine CallOb.mk [0] (Pick_ok L k4 hL hk4 [0, 0, 1, 2, 5, 9] (by simp) (by simp)) rfl (ImpL.refl _) rfl rfl ?_
    rintro _ _ ⟨⟨d, k5⟩, ⟨hd, hk5⟩, rfl, rfl⟩
    dsimp only at hd hk5 ⊢
    have hdb : 0 ≤ d ∧ d ≤ 9 := by simp at hd; omega
    (repeat' (conv => whnf); first | (refine aC (fun _ => ?_) (fun _ => ?_) <;> try (exfalso; omega)) | refine aS ?_ | refine aG ?_ | refine aD ?_ | refine aP_K3 ?_ | refine aI ?_ | refine aJ ?_ | refine aW (.qs [0, 1, 2, 3, 4, 5, 6, 7, 8, 9, 10, 11, 12, 13, 14, 15] (.l 16 [13, 10, 7, 5, 1] (.l 17 [13, 10, 7, 5, 1] (.qs [18, 19] (.l 20 [] .nil .no)) .no) .no)) ?_ | refine aW (.qs [0, 1, 3] (.l 2 [0] (.l 4 [0] (.qs [5] (.l 6 [] (.l 7 [] .nil .no) .no)) .no) .no)) ?_ | fail); all_goals try (conv => whnf)
    refine .mk [] ?_
    refine ⟨(l ++ [v], v + d, k5), [0, 1, 2, 5], ⟨by rw [List.length_append]; simp; omega, hr.snoc hdb.1 hdb.2, hk5⟩, by rw [List.length_append]; simp; omega, ?_⟩
    refine Le.mk (by kernel_rfl) ?_ ?_ <;> repeat' (first | exact True.intro | refine And.intro ?_ ?_ | exact Imp.refl _ | exact Imp.any _ | exact Imp.num (by omega) | exact Imp.num (by simp) | exact rfl | simp [ints])
  · have hln : l.length = n := by omega
    subst hln
    have he1 := hr.e (l.length - 1) (by omega)
    have he2 := hr.e (l.length - pp) (by omega)
    have he3 := hr.m (l.length - pp) (l.length - 1) (by omega) (by omega)
    refine ⟨l.length - 1, by omega, by rw [ints_len]; omega, ?_⟩
    (repeat' (conv => whnf); first | (refine aC (fun _ => ?_) (fun _ => ?_) <;> try (exfalso; omega)) | refine aS ?_ | refine aG ?_ | refine aD ?_ | refine aP_K3 ?_ | refine aI ?_ | refine aJ ?_ | refine aW (.qs [0, 1, 2, 3, 4, 5, 6, 7, 8, 9, 10, 11, 12, 13, 14, 15] (.l 16 [13, 10, 7, 5, 1] (.l 17 [13, 10, 7, 5, 1] (.qs [18, 19] (.l 20 [] .nil .no)) .no) .no)) ?_ | refine aW (.qs [0, 1, 3] (.l 2 [0] (.l 4 [0] (.qs [5] (.l 6 [] (.l 7 [] .nil .no) .no)) .no) .no)) ?_ | fail); all_goals try (conv => whnf)
    refine ⟨_, ints_get (by omega), ?_⟩
    (repeat' (conv => whnf); first | (refine aC (fun _ => ?_) (fun _ => ?_) <;> try (exfalso; omega)) | refine aS ?_ | refine aG ?_ | refine aD ?_ | refine aP_K3 ?_ | refine aI ?_ | refine aJ ?_ | refine aW (.qs [0, 1, 2, 3, 4, 5, 6, 7, 8, 9, 10, 11, 12, 13, 14, 15] (.l 16 [13, 10, 7, 5, 1] (.l 17 [13, 10, 7, 5, 1] (.qs [18, 19] (.l 20 [] .nil .no)) .no) .no)) ?_ | refine aW (.qs [0, 1, 3] (.l 2 [0] (.l 4 [0] (.qs [5] (.l 6 [] (.l 7 [] .nil .no) .no)) .no) .no)) ?_ | fail); all_goals try (conv => whnf)
    refine ⟨l.length - pp, by omega, by rw [ints_len]; omega, ?_⟩
    (repeat' (conv => whnf); first | (refine aC (fun _ => ?_) (fun _ => ?_) <;> try (exfalso; omega)) | refine aS ?_ | refine aG ?_ | refine aD ?_ | refine aP_K3 ?_ | refine aI ?_ | refine aJ ?_ | refine aW (.qs [0, 1, 2, 3, 4, 5, 6, 7, 8, 9, 10, 11, 12, 13, 14, 15] (.l 16 [13, 10, 7, 5, 1] (.l 17 [13, 10, 7, 5, 1] (.qs [18, 19] (.l 20 [] .nil .no)) .no) .no)) ?_ | refine aW (.qs [0, 1, 3] (.l 2 [0] (.l 4 [0] (.qs [5] (.l 6 [] (.l 7 [] .nil .no) .no)) .no) .no)) ?_ | fail); all_goals try (conv => whnf)
    refine ⟨_, ints_get (by omega), ?_⟩
    (repeat' (conv => whnf); first | (refine aC (fun _ => ?_) (fun _ => ?_) <;> try (exfalso; omega)) | refine aS ?_ | refine aG ?_ | refine aD ?_ | refine aP_K3 ?_ | refine aI ?_ | refine aJ ?_ | refine aW (.qs [0, 1, 2, 3, 4, 5, 6, 7, 8, 9, 10, 11, 12, 13, 14, 15] (.l 16 [13, 10, 7, 5, 1] (.l 17 [13, 10, 7, 5, 1] (.qs [18, 19] (.l 20 [] .nil .no)) .no) .no)) ?_ | refine aW (.qs [0, 1, 3] (.l 2 [0] (.l 4 [0] (.qs [5] (.l 6 [] (.l 7 [] .nil .no) .no)) .no) .no)) ?_ | fail); all_goals try (conv => whnf)
    refine .mk [.fz 4] ?_
    refine CallOb.mk [0] (Pick_ok L k4 hL hk4 [0, 0, 1, 3, 4, 8] (by simp) (by simp)) rfl (ImpL.refl _) rfl rfl ?_
    rintro _ _ ⟨⟨d, k5⟩, ⟨hd, hk5⟩, rfl, rfl⟩
    dsimp only at hd hk5 ⊢
    have hdb : 0 ≤ d ∧ d ≤ 8 := by simp at hd; omega
    (repeat' (conv => whnf); first | (refine aC (fun _ => ?_) (fun _ => ?_) <;> try (exfalso; omega)) | refine aS ?_ | refine aG ?_ | refine aD ?_ | refine aP_K3 ?_ | refine aI ?_ | refine aJ ?_ | refine aW (.qs [0, 1, 2, 3, 4, 5, 6, 7, 8, 9, 10, 11, 12, 13, 14, 15] (.l 16 [13, 10, 7, 5, 1] (.l 17 [13, 10, 7, 5, 1] (.qs [18, 19] (.l 20 [] .nil .no)) .no) .no)) ?_ | refine aW (.qs [0, 1, 3] (.l 2 [0] (.l 4 [0] (.qs [5] (.l 6 [] (.l 7 [] .nil .no) .no)) .no) .no)) ?_ | fail); all_goals try (conv => whnf)
    refine .mk [] ?_
    refine CallOb.mk [0] (N_ok L k5 hL hk5 8 (by omega) (by omega)) rfl (ImpL.refl _) rfl rfl ?_
    rintro _ _ ⟨⟨v8, k6⟩, ⟨hv8, hv8', hk6⟩, rfl, rfl⟩
    dsimp only at hv8 hv8' hk6 ⊢
    generalize hq : l.getD (l.length - 1) 0 - l.getD (l.length - pp) 0 + d = q at *
    (repeat' (conv => whnf); first | (refine aC (fun _ => ?_) (fun _ => ?_) <;> try (exfalso; omega)) | refine aS ?_ | refine aG ?_ | refine aD ?_ | refine aP_K3 ?_ | refine aI ?_ | refine aJ ?_ | refine aW (.qs [0, 1, 2, 3, 4, 5, 6, 7, 8, 9, 10, 11, 12, 13, 14, 15] (.l 16 [13, 10, 7, 5, 1] (.l 17 [13, 10, 7, 5, 1] (.qs [18, 19] (.l 20 [] .nil .no)) .no) .no)) ?_ | refine aW (.qs [0, 1, 3] (.l 2 [0] (.l 4 [0] (.qs [5] (.l 6 [] (.l 7 [] .nil .no) .no)) .no) .no)) ?_ | fail); all_goals try (conv => whnf)
    · refine .mk [.fz 6] ?_
      obtain ⟨h1, hnf, h2⟩ := inf_vf hr (by omega) hnb.2 hm2
      refine ⟨((l ++ [INF], 1, 0), k6), ⟨⟨h1, by simp only [List.length_append, List.length_singleton]; omega, by simp only; omega, fun hh => absurd hh hnf, ⟨_, h1, fun _ => rfl, Iff.rfl, by simp only [List.length_append, List.length_singleton]; omega, by simp only; omega, by simp only; omega, h2⟩, by
        have h0 := hr.e 0 (by omega)
        show cv (l ++ [INF], 1, 0) 0 ≤ _
        rw [cv_zero (x := (l ++ [INF], 1, 0)) h1]
        show (l ++ [INF]).getD 0 0 ≤ _
        rw [getD_snoc_lt (by omega)]; omega⟩, hk6⟩, rfl, ?_⟩
      exact Imp.agg ⟨Imp.psl (by simp [ints]), Imp.refl _, Imp.refl _, trivial⟩
    · obtain ⟨h1, h2, h3, h4, h5⟩ := base_vf hr (by omega) hnb.2 hm2 hpb.1 hpb.2.1 hpb.2.2 hdb.1 hdb.2 hq
      refine .mk [] ?_
      refine CallOb.mk [0] (N_ok L k6 hL hk6 4 (by omega) (by omega)) rfl (ImpL.refl _) rfl rfl ?_
      rintro _ _ ⟨⟨v9, k7⟩, ⟨hv9, hv9', hk7⟩, rfl, rfl⟩
      dsimp only at hv9 hv9' hk7 ⊢
      (repeat' (conv => whnf); first | (refine aC (fun _ => ?_) (fun _ => ?_) <;> try (exfalso; omega)) | refine aS ?_ | refine aG ?_ | refine aD ?_ | refine aP_K3 ?_ | refine aI ?_ | refine aJ ?_ | refine aW (.qs [0, 1, 2, 3, 4, 5, 6, 7, 8, 9, 10, 11, 12, 13, 14, 15] (.l 16 [13, 10, 7, 5, 1] (.l 17 [13, 10, 7, 5, 1] (.qs [18, 19] (.l 20 [] .nil .no)) .no) .no)) ?_ | refine aW (.qs [0, 1, 3] (.l 2 [0] (.l 4 [0] (.qs [5] (.l 6 [] (.l 7 [] .nil .no) .no)) .no) .no)) ?_ | fail); all_goals try (conv => whnf)
      refine .mk [] ?_
      refine CallOb.mk [0] (N_ok L k7 hL hk7 2 (by omega) (by omega)) rfl (ImpL.refl _) rfl rfl ?_
      rintro _ _ ⟨⟨v10, k8⟩, ⟨hv10, hv10', hk8⟩, rfl, rfl⟩
      dsimp only at hv10 hv10' hk8 ⊢
      (repeat' (conv => whnf); first | (refine aC (fun _ => ?_) (fun _ => ?_) <;> try (exfalso; omega)) | refine aS ?_ | refine aG ?_ | refine aD ?_ | refine aP_K3 ?_ | refine aI ?_ | refine aJ ?_ | refine aW (.qs [0, 1, 2, 3, 4, 5, 6, 7, 8, 9, 10, 11, 12, 13, 14, 15] (.l 16 [13, 10, 7, 5, 1] (.l 17 [13, 10, 7, 5, 1] (.qs [18, 19] (.l 20 [] .nil .no)) .no) .no)) ?_ | refine aW (.qs [0, 1, 3] (.l 2 [0] (.l 4 [0] (.qs [5] (.l 6 [] (.l 7 [] .nil .no) .no)) .no) .no)) ?_ | fail); all_goals try (conv => whnf)
      refine .mk [.fz 3] ?_
      obtain ⟨mo, hmo⟩ : ∃ mo : Nat, v9 = mo := ⟨v9.toNat, by omega⟩
      obtain ⟨ti, hti⟩ : ∃ ti : Nat, (1 + v10 : Int) = ti := ⟨(1 + v10).toNat, by omega⟩
      simp only [hmo, hti]
      have hpt : pp * ti ≤ 8 := by
        have : pp * ti ≤ 4 * 2 := Nat.mul_le_mul hpb.2.1 (by omega)
        omega
      have hpt2 : (ti - 1) * pp ≤ 4 := by
        have : (ti - 1) * pp ≤ 1 * 4 := Nat.mul_le_mul (by omega) hpb.2.1
        omega
      refine CallOb.mk [] (Longer_ok l pp q mo ti h1 (by omega) (by omega) (by omega)) rfl (ImpL.refl _) rfl rfl ?_
      rintro _ _ ⟨⟨ws, wp, wq⟩, hx, rfl, rfl⟩
      dsimp only at hx ⊢
      obtain ⟨g1, g2, g3, g4, g5⟩ := longP_vf h1 (by omega) (fun j hj => .inr (by have := h4 j hj; omega)) (by omega) (by omega) (by omega) hx
      (repeat' (conv => whnf); first | (refine aC (fun _ => ?_) (fun _ => ?_) <;> try (exfalso; omega)) | refine aS ?_ | refine aG ?_ | refine aD ?_ | refine aP_K3 ?_ | refine aI ?_ | refine aJ ?_ | refine aW (.qs [0, 1, 2, 3, 4, 5, 6, 7, 8, 9, 10, 11, 12, 13, 14, 15] (.l 16 [13, 10, 7, 5, 1] (.l 17 [13, 10, 7, 5, 1] (.qs [18, 19] (.l 20 [] .nil .no)) .no) .no)) ?_ | refine aW (.qs [0, 1, 3] (.l 2 [0] (.l 4 [0] (.qs [5] (.l 6 [] (.l 7 [] .nil .no) .no)) .no) .no)) ?_ | fail); all_goals try (conv => whnf)
      refine .mk [] ?_
      exact ⟨((ws, wp, wq), k8), ⟨⟨g1, by simp only at g4 ⊢; omega, by simp only at g5 ⊢; omega, fun _ t => (by rw [g2, g2]; exact h5 t), ⟨(l, pp, q), h1, g2, g3, by simp only; omega, hpb.2.1, h2, fun j hj => .inr (h4 j hj)⟩, by rw [g2]; show cv (l, pp, q) 0 ≤ _; rw [cv_zero (x := (l, pp, q)) h1]; exact h4 0 (by omega)⟩, hk8⟩, rfl, Imp.refl _⟩
    · obtain ⟨h1, h2, h3, h4, h5⟩ := base_vf hr (by omega) hnb.2 hm2 hpb.1 hpb.2.1 hpb.2.2 hdb.1 hdb.2 hq
      refine .mk [.fz 3] ?_
      exact ⟨((l, pp, q), k6), ⟨⟨h1, by simp only; omega, by simp only; omega, fun _ => h5, ⟨_, h1, fun _ => rfl, Iff.rfl, by simp only; omega, hpb.2.1, h2, fun j hj => .inr (h4 j hj)⟩, by show cv (l, pp, q) 0 ≤ _; rw [cv_zero (x := (l, pp, q)) h1]; exact h4 0 (by omega)⟩, hk6⟩, rfl, Imp.refl _⟩
end Go.Proofs.Ytifcdempdcolkab
