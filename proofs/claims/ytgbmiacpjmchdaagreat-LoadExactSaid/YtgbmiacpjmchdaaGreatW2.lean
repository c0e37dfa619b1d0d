/-
  A text of the proofs of this seat: lemmas that the statements' proofs use; it states nothing of the program by itself beyond the contracts that its theorems bear. Conditions: those that stand in each theorem. Its short name: W2.
-/
import Derived.Test.YtgbmiacpjmchdaaGreatW1
set_option linter.unusedVariables false
set_option linter.unusedSimpArgs false
--APPX Go.Cv.vals_len
namespace Go.Proofs.YtgbmiacpjmchdaaGreat
open Go.Sx Go.Cv
set_option maxRecDepth 4000
def rowsAt (F : Nat → Int) (t N : Nat) : List Int := vals F t ++ List.replicate (N - t) 0
theorem rowsAt_len (F : Nat → Int) {t N : Nat} (h : t ≤ N) : (rowsAt F t N).length = N := by simp [rowsAt, vals_len]; omega
theorem rowsAt_set (F : Nat → Int) {t N : Nat} (h : t < N) : (ints (rowsAt F t N)).set t [i64 (F t)] = ints (rowsAt F (t + 1) N) := by
  have e : N - t = (N - (t + 1)) + 1 := by omega
  simp only [rowsAt, e, List.replicate_succ]
  simp only [ints, List.map_append, List.map_cons, vals_succ]
  rw [List.set_append_right _ _ (by simp [vals])]
  simp [vals]
theorem rowsAt_get (F : Nat → Int) {t N k : Nat} (h : k < t) : (rowsAt F t N).getD k 0 = F k := by
  rw [rowsAt, List.getD_eq_getElem?_getD, List.getElem?_append_left (by rw [vals_len]; exact h), ← List.getD_eq_getElem?_getD, vals_get h]
theorem rowsAt_full (F : Nat → Int) (N : Nat) : rowsAt F N N = vals F N := by simp [rowsAt]
theorem rowsAt_zero (F : Nat → Int) (N : Nat) : ints (rowsAt F 0 N) = List.replicate N [i64 0] := by simp [rowsAt, vals, ints]
theorem rowsAt_take (F : Nat → Int) (t N : Nat) : List.drop 0 (List.take t (ints (rowsAt F t N))) = ints (vals F t) := by
  rw [List.drop_zero, ints_take, rowsAt, List.take_left' (vals_len F t)]
theorem aP_W2 {A B K : Prop} (k : K) (a : A := by (simp only [zA, zT, zD, zC, zN, ints_len, zR, Go.Cv.vals_len]; omega)) (b : B := by (simp only [zA, zT, zD, zC, zN, ints_len, zR, Go.Cv.vals_len]; omega)) : (A ∧ B) ∧ K := ⟨⟨a, b⟩, k⟩
theorem Build_ok (g : Nat) (c : SV) (F : Nat → Int) (s n : Nat) (inc : Int) (hn : 1 ≤ n) (hN : s + n ≤ 2000) (hi : 0 ≤ inc) (hi2 : inc ≤ 1099511627776)
    (hF : ∀ t, t ≤ s + n → 0 ≤ F t ∧ F t ≤ 4611686018427387904) (hcall : ∀ t, t < s + n → Ctr Tryz.prog g [i64 t, c] [] (fun r o => o = [] ∧ r = i64 (F t)))
    (hper : (∀ t, t < s + n → F t ≠ INF) → Per F s n inc) :
    Ctr Tryz.prog 75 [.fn g [.shut c], i64 s, i64 n, i64 inc] [] (fun r o => ∃ x : List Int × Int × Int × Int, BuildP F (s + n) x ∧ o = [] ∧ r = crvE x) := by
  refine Ctr.impE ?_
  refine fn_intro (E := env 0) tys_ok rfl rfl rfl Tryz.func75 (by kernel_rfl) rfl (by kernel_rfl) ?_
  (repeat' (conv => whnf); first | refine aC (fun _ => ?_) (fun _ => ?_) | refine aS ?_ | refine aG ?_ | refine aD ?_ | refine aH ?_ | refine aP_W2 ?_ | refine aI ?_ | refine aJ ?_ | fail); all_goals try (conv => whnf)
  refine ⟨s + n, s + n, by push_cast; rfl, by push_cast; rfl, Nat.le_refl _, ⟨by simp only; omega, by omega⟩, ?_⟩
  (repeat' (conv => whnf); first | refine aC (fun _ => ?_) (fun _ => ?_) | refine aS ?_ | refine aG ?_ | refine aD ?_ | refine aH ?_ | refine aP_W2 ?_ | refine aI ?_ | refine aJ ?_ | fail); all_goals try (conv => whnf)
  refine LoopOb.mk (Y := Nat) (st := fun t => ⟨[(0, .fn g [.shut c]), (1, i64 s), (2, i64 n), (3, i64 inc), (8, .ptr 0 0), (10, .vec 1), (19, i64 ((s + n : Nat) : Int)), (20, i64 t)], [.box [.nil, i64 0, i64 0], .vec 1 (ints (rowsAt F t (s + n)))]⟩)
    (inv := fun t => t ≤ s + n ∧ ∀ k < t, F k ≠ INF) (fun t => s + n - t) 0 [0, 1] ⟨by omega, fun k h => by omega⟩
    (by refine Le.mk (by kernel_rfl) ?_ ?_ <;> repeat' (first | exact True.intro | refine And.intro ?_ ?_ | exact Imp.refl _ | exact Imp.any _ | exact Imp.num (by simp) | exact rfl | exact (rowsAt_zero _ _).symm)) ?_
  rintro t ⟨h1, h2⟩
  (repeat' (conv => whnf); first | refine aC (fun _ => ?_) (fun _ => ?_) | refine aS ?_ | refine aG ?_ | refine aD ?_ | refine aP_W2 ?_ | refine aI ?_ | refine aJ ?_ | fail); all_goals try (conv => whnf)
  · refine .mk [] ?_
    refine CallOb.mk [] (hcall t (by omega)) rfl ⟨Imp.refl _, Imp.unshut _, trivial⟩ rfl rfl ?_
    rintro _ _ ⟨rfl, rfl⟩
    (repeat' (conv => whnf); first | refine aC (fun _ => ?_) (fun _ => ?_) | refine aS ?_ | refine aG ?_ | refine aD ?_ | refine aP_W2 ?_ | refine aI ?_ | refine aJ ?_ | fail); all_goals try (conv => whnf)
    have hl : (rowsAt F t (s + n)).length = s + n := rowsAt_len F h1
    refine ⟨t, rfl, by rw [ints_len]; omega, ?_⟩
    (repeat' (conv => whnf); first | refine aC (fun _ => ?_) (fun _ => ?_) | refine aS ?_ | refine aG ?_ | refine aD ?_ | refine aP_W2 ?_ | refine aI ?_ | refine aJ ?_ | fail); all_goals try (conv => whnf)
    refine ⟨_, ints_get (by omega), ?_⟩
    (repeat' (conv => whnf); first | refine aC (fun _ => ?_) (fun _ => ?_) | refine aS ?_ | refine aG ?_ | refine aD ?_ | refine aP_W2 ?_ | refine aI ?_ | refine aJ ?_ | fail); all_goals try (conv => whnf)
    have hset := rowsAt_set F (t := t) (N := s + n) (by omega)
    have hl1 : (rowsAt F (t + 1) (s + n)).length = s + n := rowsAt_len F (by omega)
    rw [hset]
    refine ⟨t, rfl, by rw [ints_len]; omega, ?_⟩
    (repeat' (conv => whnf); first | refine aC (fun _ => ?_) (fun _ => ?_) | refine aS ?_ | refine aG ?_ | refine aD ?_ | refine aP_W2 ?_ | refine aI ?_ | refine aJ ?_ | fail); all_goals try (conv => whnf)
    refine ⟨_, ints_get (by omega), ?_⟩
    rw [rowsAt_get F (show t < t + 1 by omega)]
    (repeat' (conv => whnf); first | refine aC (fun _ => ?_) (fun _ => ?_) | refine aS ?_ | refine aG ?_ | refine aD ?_ | refine aP_W2 ?_ | refine aI ?_ | refine aJ ?_ | fail); all_goals try (conv => whnf)
    · have hINF : F t = INF := by assumption
      refine .mk [.fz 1] ?_
      (repeat' (conv => whnf); first | refine aC (fun _ => ?_) (fun _ => ?_) | refine aS ?_ | refine aG ?_ | refine aD ?_ | refine aP_W2 ?_ | refine aI ?_ | refine aJ ?_ | fail); all_goals try (conv => whnf)
      refine ⟨t + 1, by push_cast; rfl, ?_⟩
      refine ⟨⟨by omega, by rw [ints_len]; omega⟩, ?_⟩
      rw [rowsAt_take]
      (repeat' (conv => whnf); first | refine aC (fun _ => ?_) (fun _ => ?_) | refine aS ?_ | refine aG ?_ | refine aD ?_ | refine aH ?_ | refine aP_W2 ?_ | refine aI ?_ | refine aJ ?_ | fail); all_goals try (conv => whnf)
      refine CallOb.mk [] (Ending_ok (vals F (t + 1)) (by rw [vals_len]; omega) (by rw [vals_len]; omega)) rfl (ImpL.refl _) rfl rfl ?_
      rintro _ _ ⟨x, hx, rfl, rfl⟩
      (repeat' (conv => whnf); first | refine aC (fun _ => ?_) (fun _ => ?_) | refine aS ?_ | refine aG ?_ | refine aD ?_ | refine aH ?_ | refine aP_W2 ?_ | refine aI ?_ | refine aJ ?_ | fail); all_goals try (conv => whnf)
      exact ⟨x, .inl ⟨t, by omega, hINF, h2, hx⟩, rfl, Imp.refl _⟩
    · have hne : ¬F t = INF := by assumption
      refine .mk [] ?_
      refine ⟨t + 1, [0, 1], ⟨by omega, fun k hk => ?_⟩, by omega, by (exact aL)⟩
      by_cases hkt : k = t
      · subst hkt; exact hne
      · exact h2 k (by omega)
  have htN : t = s + n := by omega
  subst htN
  rw [rowsAt_full]
  have hp := hper h2
  refine .mk [.fz 1] ?_
  (repeat' (conv => whnf); first | refine aC (fun _ => ?_) (fun _ => ?_) | refine aS ?_ | refine aG ?_ | refine aD ?_ | refine aP_W2 ?_ | refine aI ?_ | refine aJ ?_ | fail); all_goals try (conv => whnf)
  refine ⟨s, rfl, ?_⟩
  refine ⟨⟨by rw [ints_len, vals_len]; omega, by omega⟩, ?_⟩
  have ev : List.drop s (List.take (ints (vals F (s + n))).length (ints (vals F (s + n)))) = ints ((vals F (s + n)).drop s) := by
    rw [List.take_length, ints_drop]
  rw [ev]
  (repeat' (conv => whnf); first | refine aC (fun _ => ?_) (fun _ => ?_) | refine aS ?_ | refine aG ?_ | refine aD ?_ | refine aH ?_ | refine aP_W2 ?_ | refine aI ?_ | refine aJ ?_ | fail); all_goals try (conv => whnf)
  have hdl : ((vals F (s + n)).drop s).length = n := by rw [List.length_drop, vals_len]; omega
  have hdg : ∀ j, j < n → ((vals F (s + n)).drop s).getD j 0 = F (s + j) := by
    intro j hj
    rw [List.getD_eq_getElem?_getD, List.getElem?_drop, ← List.getD_eq_getElem?_getD, vals_get (by omega)]
  refine CallOb.mk [] (least_ok ((vals F (s + n)).drop s) inc F s (by omega) (by omega) hi hi2 (fun j => by
    by_cases hj : j < n
    · rw [hdg j hj]; exact hF _ (by omega)
    · rw [List.getD_eq_getElem?_getD, List.getElem?_eq_none (by omega)]; simp) (fun j hj => hdg j (by omega)) (by rw [hdl]; exact hp)) rfl (ImpL.refl _) rfl rfl ?_
  rintro _ _ ⟨p, ⟨g1, g2, g3, g4⟩, rfl, rfl⟩
  rw [hdl] at g2 g3 g4
  have hmin := Fits.min hn hp g4
  have hpq := Fits.per hn hp g3
  have hQp := mul_bd (a := inc) (b := (p : Int)) (A := 1099511627776) (B := 2000) (by omega) (by omega) (by omega) (by omega)
  have hd := tdiv_bd (a := inc * p) (b := (n : Int)) (by omega) (by omega)
  (repeat' (conv => whnf); first | refine aC (fun _ => ?_) (fun _ => ?_) | refine aS ?_ | refine aG ?_ | refine aD ?_ | refine aH ?_ | refine aP_W2 ?_ | refine aI ?_ | refine aJ ?_ | fail); all_goals try (conv => whnf)
  refine ⟨by omega, ?_⟩
  rw [hd.1]
  (repeat' (conv => whnf); first | refine aC (fun _ => ?_) (fun _ => ?_) | refine aS ?_ | refine aG ?_ | refine aD ?_ | refine aH ?_ | refine aP_W2 ?_ | refine aI ?_ | refine aJ ?_ | fail); all_goals try (conv => whnf)
  generalize hq : inc * (p : Int) / (n : Int) = q at *
  have hq0 : 0 ≤ q := hd.2.1
  have hq1 : q ≤ 2199023255552000 := by omega
  refine LoopOb.mk (Y := Nat) (st := fun u => ⟨[(1, i64 u), (8, .ptr 0 0), (10, .psl 1 (ints (vals F (s + n)))), (12, i64 p), (13, i64 q)], [.box [.nil, i64 0, i64 0]]⟩)
    (inv := fun u => u ≤ s ∧ Per F u p q) (fun u => u) s [0] ⟨by omega, hpq⟩ (by (exact aL)) ?_
  rintro u ⟨g5, g6⟩
  have c1 := hF (u - 1) (by omega)
  have c2 := hF (u - 1 + p) (by omega)
  have key : ∀ k, k < s + n → (vals F (s + n)).getD k 0 = F k := fun k hk => vals_get hk
  have hcut : u + p ≤ s + n → List.drop 0 (List.take (u + p) (ints (vals F (s + n)))) = ints (vals F (u + p)) := by
    intro h
    rw [List.drop_zero, ints_take]
    congr 1
    apply List.ext_getElem
    · rw [List.length_take, vals_len, vals_len]; omega
    · intro i h1 h2; simp [vals]
  replace hcut := hcut (by omega)
  (repeat' (conv => whnf); first | refine aC (fun _ => ?_) (fun _ => ?_) | refine aS ?_ | refine aG ?_ | refine aD ?_ | refine aP_W2 ?_ | refine aI ?_ | refine aJ ?_ | refine aW (.qs [0, 1, 2, 3, 4, 5, 6, 7, 8, 9, 10, 11, 12, 13, 14, 15, 16, 17, 18] .nil) ?_ | fail); all_goals try (conv => whnf)
  · have hu : 0 < u := by omega
    refine ⟨u - 1, _, by omega, ints_get (by rw [vals_len]; omega), ?_⟩
    rw [key _ (by omega)]
    (repeat' (conv => whnf); first | refine aC (fun _ => ?_) (fun _ => ?_) | refine aS ?_ | refine aG ?_ | refine aD ?_ | refine aP_W2 ?_ | refine aI ?_ | refine aJ ?_ | refine aW (.qs [0, 1, 2, 3, 4, 5, 6, 7, 8, 9, 10, 11, 12, 13, 14, 15, 16, 17, 18] .nil) ?_ | fail); all_goals try (conv => whnf)
    refine ⟨u - 1 + p, _, by omega, ints_get (by rw [vals_len]; omega), ?_⟩
    rw [key _ (by omega)]
    (repeat' (conv => whnf); first | refine aC (fun _ => ?_) (fun _ => ?_) | refine aS ?_ | refine aG ?_ | refine aD ?_ | refine aP_W2 ?_ | refine aI ?_ | refine aJ ?_ | refine aW (.qs [0, 1, 2, 3, 4, 5, 6, 7, 8, 9, 10, 11, 12, 13, 14, 15, 16, 17, 18] .nil) ?_ | fail); all_goals try (conv => whnf)
    · refine .mk [] ?_
      have he : F (u - 1) + q = F (u - 1 + p) := by assumption
      exact ⟨u - 1, [0], ⟨by omega, g6.pred he.symm⟩, by omega, by (exact aL)⟩
    all_goals have hms : MinS F u p q := minS_of (.inr (fun h => absurd h.symm (by assumption)))
    · refine .mk [] ?_
      exact ⟨([], 0, 0, 3), .inr ⟨h2, vals F (u + p), p, q, ⟨u, g1, g6, hmin, hms, rfl⟩, by rw [vals_len]; omega, .inl ⟨.inl (by omega), rfl⟩⟩, rfl, Imp.tup ⟨imp_zero, Imp.refl _, trivial⟩⟩
    · refine .mk [] ?_
      exact ⟨([], 0, 0, 3), .inr ⟨h2, vals F (u + p), p, q, ⟨u, g1, g6, hmin, hms, rfl⟩, by rw [vals_len]; omega, .inl ⟨.inr (by omega), rfl⟩⟩, rfl, Imp.tup ⟨imp_zero, Imp.refl _, trivial⟩⟩
    · refine ⟨u + p, by push_cast; rfl, ⟨by omega, by rw [ints_len, vals_len]; omega⟩, ?_⟩
      rw [hcut]
      (repeat' (conv => whnf); first | refine aC (fun _ => ?_) (fun _ => ?_) | refine aS ?_ | refine aG ?_ | refine aD ?_ | refine aH ?_ | refine aP_W2 ?_ | refine aI ?_ | refine aJ ?_ | fail); all_goals try (conv => whnf)
      refine CallOb.mk [] (checked_ok (vals F (u + p)) p q (by rw [vals_len]; omega) (by rw [vals_len]; omega)) rfl (ImpL.refl _) rfl rfl ?_
      rintro _ _ ⟨x, hx, rfl, rfl⟩
      (repeat' (conv => whnf); first | refine aC (fun _ => ?_) (fun _ => ?_) | refine aS ?_ | refine aG ?_ | refine aD ?_ | refine aH ?_ | refine aP_W2 ?_ | refine aI ?_ | refine aJ ?_ | fail); all_goals try (conv => whnf)
      exact ⟨x, .inr ⟨h2, vals F (u + p), p, q, ⟨u, g1, g6, hmin, hms, rfl⟩, by rw [vals_len]; omega, .inr ⟨by omega, by omega, hx⟩⟩, rfl, Imp.refl _⟩
  all_goals have hms : MinS F u p q := minS_of (.inl (by omega))
  · refine .mk [] ?_
    exact ⟨([], 0, 0, 3), .inr ⟨h2, vals F (u + p), p, q, ⟨u, g1, g6, hmin, hms, rfl⟩, by rw [vals_len]; omega, .inl ⟨.inl (by omega), rfl⟩⟩, rfl, Imp.tup ⟨imp_zero, Imp.refl _, trivial⟩⟩
  · refine .mk [] ?_
    exact ⟨([], 0, 0, 3), .inr ⟨h2, vals F (u + p), p, q, ⟨u, g1, g6, hmin, hms, rfl⟩, by rw [vals_len]; omega, .inl ⟨.inr (by omega), rfl⟩⟩, rfl, Imp.tup ⟨imp_zero, Imp.refl _, trivial⟩⟩
  · refine ⟨u + p, by push_cast; rfl, ⟨by omega, by rw [ints_len, vals_len]; omega⟩, ?_⟩
    rw [hcut]
    (repeat' (conv => whnf); first | refine aC (fun _ => ?_) (fun _ => ?_) | refine aS ?_ | refine aG ?_ | refine aD ?_ | refine aH ?_ | refine aP_W2 ?_ | refine aI ?_ | refine aJ ?_ | fail); all_goals try (conv => whnf)
    refine CallOb.mk [] (checked_ok (vals F (u + p)) p q (by rw [vals_len]; omega) (by rw [vals_len]; omega)) rfl (ImpL.refl _) rfl rfl ?_
    rintro _ _ ⟨x, hx, rfl, rfl⟩
    (repeat' (conv => whnf); first | refine aC (fun _ => ?_) (fun _ => ?_) | refine aS ?_ | refine aG ?_ | refine aD ?_ | refine aH ?_ | refine aP_W2 ?_ | refine aI ?_ | refine aJ ?_ | fail); all_goals try (conv => whnf)
    exact ⟨x, .inr ⟨h2, vals F (u + p), p, q, ⟨u, g1, g6, hmin, hms, rfl⟩, by rw [vals_len]; omega, .inr ⟨by omega, by omega, hx⟩⟩, rfl, Imp.refl _⟩
end Go.Proofs.YtgbmiacpjmchdaaGreat
