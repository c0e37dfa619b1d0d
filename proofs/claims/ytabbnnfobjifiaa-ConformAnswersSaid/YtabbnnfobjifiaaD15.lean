/-
  A text of the proofs of this seat: lemmas that the statements' proofs use; it states nothing of the program by itself beyond the contracts that its theorems bear. Conditions: those that stand in each theorem. Its short name: D15.
-/
import Derived.Test.YtabbnnfobjifiaaD14
import Derived.Test.YtabbnnfobjifiaaC8
set_option linter.unusedVariables false
set_option linter.unusedSimpArgs false
namespace Go.Proofs.Ytabbnnfobjifiaa
open Go.Sx Go.Pk Go.Cv Go.St
set_option maxRecDepth 8000
set_option maxHeartbeats 2000000
--APPX pks_len, Go.Cv.vals_len
theorem aP_D15 {A B K : Prop} (k : K) (a : A := by (simp only [zA, zT, zD, zC, zN, ints_len, zR, pks_len, Go.Cv.vals_len]; omega)) (b : B := by (simp only [zA, zT, zD, zC, zN, ints_len, zR, pks_len, Go.Cv.vals_len]; omega)) : (A ∧ B) ∧ K := ⟨⟨a, b⟩, k⟩
theorem rGreedyG_ok (flow : Int) (vs : List Int) (q i size ticks : Int) :
    Ctr Try.prog 39 [i64 flow, crv vs q i, i64 size, i64 ticks] [] (fun r o => ∃ x : List Pk × Int, GreG flow vs q i size ticks x ∧ o = [] ∧ r = .tup [.psl 3 (pks x.1), i64 x.2]) := by
  by_cases hall : ValidP vs q i ∧ GrA flow size ticks
  · obtain ⟨hq, ha⟩ := hall
    obtain ⟨q', rfl, vf⟩ := id hq.vf
    obtain ⟨h1, h2, h3, h4⟩ := id ha
    exact (rGreedy_ok flow h1 (vs, q', i) vf size ticks h2 ⟨h3, h4⟩).mono fun r o ⟨h5, h6⟩ => ⟨_, .inr (.inr ⟨hq, ha, fun q2 h => by
      have : q2 = q' := by omega
      subst this
      rfl⟩), h5, h6⟩
  · refine Ctr.impE ?_
    refine fn_intro (E := env 0) tys_ok rfl rfl rfl Try.func39 (by kernel_rfl) rfl (by kernel_rfl) ?_
    unfold GrA at hall
    have hw1 : ¬ValidP vs q i → GreG flow vs q i size ticks ([], 1) := fun h => .inl ⟨h, rfl⟩
    have hw2 : ValidP vs q i → GreG flow vs q i size ticks ([], 2) := fun h => .inr (.inl ⟨h, fun h2 => hall ⟨h, h2⟩, rfl⟩)
    have cV := Valid_ok vs q i
    generalize ValidP vs q i = PV at *
    (repeat' (conv => whnf); first | refine AsgOb.nil ?_ | (refine aC (fun _ => ?_) (fun _ => ?_) <;> try (exfalso; omega)) | refine aS ?_ | refine aG ?_ | refine aD ?_ | refine aH ?_ | refine aP_D15 ?_ | refine aI ?_ | refine aJ ?_ | (refine aK [] cV ?_) | fail); all_goals try (conv => whnf)
    all_goals first
      | exact ⟨([], 1), hw1 (by assumption), rfl, Imp.tup ⟨Imp.nil 3, Imp.refl _, trivial⟩⟩
      | exact ⟨([], 2), hw2 (Classical.not_not.1 (by assumption)), rfl, Imp.tup ⟨Imp.nil 3, Imp.refl _, trivial⟩⟩
      | exact absurd ⟨Classical.not_not.1 (by assumption), by omega⟩ hall
      | trace_state
/- the greatest growth in so many ticks -/
def mst (A : Nat → Int) (k : Nat) : Nat → Int
  | 0 => 0
  | s + 1 => max (mst A k s) (A (s + k) - A s)
theorem mst_ge {A : Nat → Int} {k : Nat} : ∀ {n s : Nat}, s < n → A (s + k) - A s ≤ mst A k n
  | n + 1, s, h => by
    simp only [mst]
    by_cases e : s = n
    · subst e; omega
    · have := mst_ge (A := A) (k := k) (n := n) (s := s) (by omega); omega
theorem mst_nn {A : Nat → Int} {k : Nat} : ∀ n, 0 ≤ mst A k n
  | 0 => Int.le_refl _
  | n + 1 => by have := mst_nn (A := A) (k := k) n; simp only [mst]; omega
theorem mst_le {A : Nat → Int} {k : Nat} {G : Int} (h0 : 0 ≤ G) : ∀ {n : Nat}, (∀ s, s < n → A (s + k) - A s ≤ G) → mst A k n ≤ G
  | 0, _ => h0
  | n + 1, h => by
    have h1 := mst_le (A := A) (k := k) h0 (n := n) fun s hs => h s (by omega)
    have h2 := h n (by omega)
    simp only [mst]; omega
theorem mst_lst {A : Nat → Int} {N : Nat} {p : List Pk} (h : Cum A p N) (hp : ∀ x ∈ p, 0 ≤ x.t) (k : Nat) : mst A k (N + 1) = lst' A N p k := by
  have h1 : mst A k (N + 1) ≤ lst' A N p k := mst_le (lst_nn _ _ _ _) fun s _ => by
    have := lst_ge h hp (s := s) (t := s + k) (by omega)
    rw [Nat.add_sub_cancel_left] at this; exact this
  have h2 := lst_le (A := A) (G := fun k => mst A k (N + 1)) (N := N) (p := p) (fun t => mst_nn _) (fun {a b} hab => mst_le (mst_nn _) fun s hs => by
    have := mst_ge (A := A) (k := b) (n := N + 1) (s := s) hs
    have := h.mono (s := s + a) (t := s + b) (by omega)
    omega) (fun x hx k hk => mst_ge (by omega)) k
  omega
theorem rat14_ok (A : Nat → Int) (N t : Nat) (hN : N ≤ 100000) (ht : t ≤ 1000000) : Ctr Try.prog 68 [.psl 1 (ints (vals A (N + 1))), i64 t] [] (fun r o => o = [] ∧ r = i64 (A (min t N))) := by
  refine fn_intro (E := env 0) tys_ok rfl rfl rfl Try.func68 (by kernel_rfl) rfl (by kernel_rfl) ?_
  have hl : (ints (vals A (N + 1))).length = N + 1 := by rw [ints_len, vals_len]
  have hg := vint (F := A) (n := N + 1) (t := min t N) (by omega)
  generalize ints (vals A (N + 1)) = V at *
  (repeat' (conv => whnf); first | refine ⟨min t N, _, by omega, hg, ?_⟩ | (refine aC (fun _ => ?_) (fun _ => ?_) <;> try (exfalso; omega)) | refine aS ?_ | refine aG ?_ | refine aD ?_ | refine aH ?_ | refine aP_D15 ?_ | refine aI ?_ | refine aJ ?_ | fail); all_goals try (conv => whnf)
  exact ⟨rfl, rfl⟩
theorem rLeast_ok (p : List Pk) (hv : Vld p) (flow : Int) (hf : -1 ≤ flow) : Ctr Try.prog 38 [.psl 3 (pks p), i64 flow] [] (fun r o => ∃ x, MkP (lsF p flow) x ∧ o = [] ∧ r = crvE x) := by
  refine Ctr.impE ?_
  refine fn_intro (E := env 0) tys_ok rfl rfl rfl Try.func38 (by kernel_rfl) rfl (by kernel_rfl) ?_
  have hp := hv.l
  have hpl := pks_len p
  have cV := rVal13_ok p (by omega)
  rw [vld_zero.2 hv] at cV
  have cS := rsums14_ok p hv flow hf
  have hA := fun t => csm_bd hv flow t
  have hE : endN p ≤ 2001 := by
    unfold endN; split
    · omega
    · rename_i i hi
      have := hv.g i (by omega)
      unfold bad at this; omega
  have hmk : ∀ x, MadeP (vals (lsF p flow) (endN p + 2)) 1 0 x.1 x.2.1 x.2.2.1 x.2.2.2 → MkP (lsF p flow) x := fun x hx => madeP_mk (by omega) (by rw [vals_len]; omega) (fun t ht => by rw [vals_len] at ht; rw [vals_get ht]) (fun m hm h => by
    have := lsF_le hv flow m
    rw [h] at this; simp only [INF] at this; omega) (fun _ => by rw [vals_len]; exact (lsF_per p flow).mono (by omega)) hx
  have cM := Made_ok (vals (lsF p flow) (endN p + 2)) 1 0 ⟨by omega, by rw [vals_len]; omega, by rw [vals_len]; omega, by omega, by omega, fun j => by
    by_cases hj : j < endN p + 2
    · rw [vals_get hj]; have := lsF_le hv flow j; omega
    · rw [List.getD_eq_getElem?_getD, List.getElem?_eq_none (by rw [vals_len]; omega)]; simp⟩
  have hms := fun k => mst_lst (csm_cum hv flow) (fun x hx => by have := hv.mem x hx; unfold bad at this; omega) k
  have hFe : lsF p flow = lst' (csm p flow) (endN p) p := rfl
  rw [hFe] at hmk cM ⊢
  have hF0 : lst' (csm p flow) (endN p) p 0 = 0 := by
    have h1 := lst_nn (csm p flow) (endN p) p 0
    have h2 := hms 0
    have h3 : mst (csm p flow) 0 (endN p + 1) ≤ 0 := mst_le (Int.le_refl _) fun s _ => by simp
    omega
  have hcum := (csm_cum hv flow).e
  generalize lst' (csm p flow) (endN p) p = F at *
  generalize csm p flow = A at *
  generalize endN p = N at *
  have hmin : ∀ t, A (min t N) = A t := fun t => by
    by_cases h : t ≤ N
    · rw [Nat.min_eq_left h]
    · rw [Nat.min_eq_right (by omega), hcum t (by omega)]
  have cAt := fun t (h : t ≤ 1000000) => rat14_ok A N t (by omega) h
  have hal : (ints (vals A (N + 1))).length = N + 1 := by rw [ints_len, vals_len]
  have hAg := fun t (h : t < N + 1) => vint (F := A) h
  generalize ints (vals A (N + 1)) = VA at *
  have hvl : ∀ k, (ints (vals F k)).length = k := fun k => by rw [ints_len, vals_len]
  (repeat' (conv => whnf); first | (refine aC (fun _ => ?_) (fun _ => ?_) <;> try (exfalso; omega)) | refine aS ?_ | refine aG ?_ | refine aD ?_ | refine aH ?_ | refine aP_D15 ?_ | refine aI ?_ | refine aJ ?_ | refine aW (.qs [0, 1, 2, 3, 4, 6, 7, 8, 9] (.l 5 [9] (.qs [10, 11, 12] .nil) .no)) ?_ | (refine aK [] cV ?_) | (refine aK [] cS ?_) | fail); all_goals try (conv => whnf)
  refine LoopOb.mk (Y := Nat) (st := fun k => ⟨[(9, i64 k), (8, .ptr 1 0), (7, .psl 1 VA), (4, .ptr 0 0)], [.box [.nil, i64 0, i64 0], .box [.vec 2, i64 1, i64 0], .vec 1 (ints (vals F k))]⟩)
    (inv := fun k => 1 ≤ k ∧ k ≤ N + 2) (fun k => N + 2 - k) 1 [0, 2, 1] (by omega) (by
      have e : ints (vals F 1) = [[i64 0]] := by simp [vals, ints, hF0]
      rw [e]; (exact aL)) ?_
  rintro k ⟨hk1, hk⟩
  have hvk := hvl k
  (repeat' (conv => whnf); first | refine aS ?_ | refine aG ?_ | refine aD ?_ | refine aH ?_ | refine aP_D15 ?_ | refine aI ?_ | refine aJ ?_ | refine aW (.qs [0, 1, 2, 3, 4, 6, 7, 8, 9] (.l 5 [9] (.qs [10, 11, 12] .nil) .no)) ?_ | fail); all_goals try (conv => whnf)
  refine CondOb.mk (fun hlt => ?_) (fun hlt => ?_)
  · have hkN : k ≤ N + 1 := by omega
    (repeat' (conv => whnf); first | (refine aC (fun _ => ?_) (fun _ => ?_) <;> try (exfalso; omega)) | refine aS ?_ | refine aG ?_ | refine aD ?_ | refine aH ?_ | refine aP_D15 ?_ | refine aI ?_ | refine aJ ?_ | refine aW (.qs [0, 1, 2, 3, 4, 6, 7, 8, 9] (.l 5 [9] (.qs [10, 11, 12] .nil) .no)) ?_ | fail); all_goals try (conv => whnf)
    refine LoopOb.mk (Y := Nat) (st := fun s => ⟨[(11, i64 s), (10, i64 (mst A k s)), (9, i64 k), (8, .ptr 1 0), (7, .psl 1 VA), (4, .ptr 0 0)], [.box [.nil, i64 0, i64 0], .box [.vec 2, i64 1, i64 0], .vec 1 (ints (vals F k))]⟩)
      (inv := fun s => s ≤ N + 1) (fun s => N + 1 - s) 0 [0, 1, 2] (by omega) (by (exact aL)) ?_
    intro s hs
    have hmb : 0 ≤ mst A k s ∧ mst A k s ≤ 60000000 := ⟨mst_nn _, mst_le (by omega) fun j _ => by have := hA (j + k); have := hA j; omega⟩
    (repeat' (conv => whnf); first | refine aS ?_ | refine aG ?_ | refine aD ?_ | refine aH ?_ | refine aP_D15 ?_ | refine aI ?_ | refine aJ ?_ | refine aW (.qs [0, 1, 2, 3, 4, 6, 7, 8, 9] (.l 5 [9] (.qs [10, 11, 12] .nil) .no)) ?_ | fail); all_goals try (conv => whnf)
    refine CondOb.mk (fun hl2 => ?_) (fun hl2 => ?_)
    · have g1 := hAg s (by omega)
      have c1 := cAt (s + k) (by omega)
      rw [hmin] at c1
      have b1 := hA (s + k)
      have b2 := hA s
      have e : mst A k (s + 1) = max (mst A k s) (A (s + k) - A s) := rfl
      generalize mst A k s = w at *
      (repeat' (conv => whnf); first | refine ⟨s, _, rfl, g1, ?_⟩ | (refine aC (fun _ => ?_) (fun _ => ?_) <;> try (exfalso; omega)) | refine aS ?_ | refine aG ?_ | refine aD ?_ | refine aH ?_ | refine aP_D15 ?_ | refine aI ?_ | refine aJ ?_ | refine aW (.qs [0, 1, 2, 3, 4, 6, 7, 8, 9] (.l 5 [9] (.qs [10, 11, 12] .nil) .no)) ?_ | (refine aK [] c1 ?_) | fail); all_goals try (conv => whnf)
      exact ⟨s + 1, [0, 1, 2], by omega, by omega, by rw [e]; (exact aL)⟩
    · have e : s = N + 1 := by omega
      subst e
      have e := hms k
      rw [e]
      have hsn : ints (vals F (k + 1)) = ints (vals F k) ++ [[i64 (F k)]] := by rw [vals_succ]; simp [ints]
      (repeat' (conv => whnf); first | (refine aC (fun _ => ?_) (fun _ => ?_) <;> try (exfalso; omega)) | refine aS ?_ | refine aG ?_ | refine aD ?_ | refine aH ?_ | refine aP_D15 ?_ | refine aI ?_ | refine aJ ?_ | refine aW (.qs [0, 1, 2, 3, 4, 6, 7, 8, 9] (.l 5 [9] (.qs [10, 11, 12] .nil) .no)) ?_ | fail); all_goals try (conv => whnf)
      exact ⟨k + 1, [0, 1, 4], by omega, by omega, by rw [hsn]; (exact aL)⟩
  · have e : k = N + 2 := by omega
    subst e
    (repeat' (conv => whnf); first | (refine aC (fun _ => ?_) (fun _ => ?_) <;> try (exfalso; omega)) | refine aS ?_ | refine aG ?_ | refine aD ?_ | refine aP_D15 ?_ | refine aI ?_ | refine aJ ?_ | refine aW (.qs [0, 1, 2, 3, 4, 6, 7, 8, 9] (.l 5 [9] (.qs [10, 11, 12] .nil) .no)) ?_ | fail); all_goals try (conv => whnf)
    refine .mk [.fz 2] ?_
    (repeat' (conv => whnf); first | (refine aC (fun _ => ?_) (fun _ => ?_) <;> try (exfalso; omega)) | refine aS ?_ | refine aG ?_ | refine aD ?_ | refine aH ?_ | refine aP_D15 ?_ | refine aI ?_ | refine aJ ?_ | refine aW (.qs [0, 1, 2, 3, 4, 6, 7, 8, 9] (.l 5 [9] (.qs [10, 11, 12] .nil) .no)) ?_ | fail); all_goals try (conv => whnf)
    refine CallOb.mk [] cM rfl (ImpL.refl _) rfl rfl ?_
    rintro _ _ ⟨⟨x1, x2, x3, x4⟩, hx, rfl, rfl⟩
    have hm := hmk _ hx
    (repeat' (conv => whnf); first | (refine aC (fun _ => ?_) (fun _ => ?_) <;> try (exfalso; omega)) | refine aS ?_ | refine aG ?_ | refine aD ?_ | refine aH ?_ | refine aP_D15 ?_ | refine aI ?_ | refine aJ ?_ | refine aW (.qs [0, 1, 2, 3, 4, 6, 7, 8, 9] (.l 5 [9] (.qs [10, 11, 12] .nil) .no)) ?_ | fail); all_goals try (conv => whnf)
    exact ⟨(x1, x2, x3, x4), hm, rfl, Imp.refl _⟩
end Go.Proofs.Ytabbnnfobjifiaa
