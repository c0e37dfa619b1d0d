/-
  A text of the proofs of this seat: lemmas that the statements' proofs use; it states nothing of the program by itself beyond the contracts that its theorems bear. Conditions: those that stand in each theorem. Its short name: D12.
-/
import Derived.Test.YtabbnnfobjifiaaC18
set_option linter.unusedVariables false
set_option linter.unusedSimpArgs false
namespace Go.Proofs.Ytabbnnfobjifiaa
open Go.Sx Go.Pk Go.Cv Go.St
set_option maxRecDepth 8000
set_option maxHeartbeats 2000000
--APPX pks_len, Go.Cv.vals_len
theorem insR_at {α : Type} {k : α → Int} {x : α} : ∀ {R : List α} {m : Nat}, (∀ j y, j < m → R[j]? = some y → k x < k y) → (∀ y, R[m]? = some y → ¬k x < k y) → insR k x R = R.take m ++ x :: R.drop m
  | [], m, _, _ => by simp [insR]
  | y :: R, 0, _, h2 => by
    have := h2 y rfl
    simp only [insR]; rw [if_neg this]; rfl
  | y :: R, m + 1, h1, h2 => by
    have := h1 0 y (by omega) rfl
    simp only [insR]; rw [if_pos this, insR_at (m := m) (fun j z hj hz => h1 (j + 1) z (by omega) hz) h2]; rfl
/- one packet more in the order: behind those that are not later -/
theorem srt_at {k : Pk → Int} {l : List Pk} {x : Pk} {n : Nat} (hn : n ≤ (srt k l).length) (h1 : ∀ j, n ≤ j → j < (srt k l).length → k x < k ((srt k l).getD j pk0)) (h2 : 0 < n → ¬k x < k ((srt k l).getD (n - 1) pk0)) :
    (srt k l).take n ++ x :: (srt k l).drop n = srt k (l ++ [x]) := by
  have hl : (srt k l).length = (srtR k l).length := by simp [srt]
  have hg : ∀ j, j < (srtR k l).length → (srt k l).getD ((srtR k l).length - 1 - j) pk0 = (srtR k l).getD j pk0 := fun j hj => by
    simp only [srt, List.getD_eq_getElem?_getD]
    rw [List.getElem?_reverse (by omega), show (srtR k l).length - 1 - ((srtR k l).length - 1 - j) = j by omega]
  have e : insR k x (srtR k l) = (srtR k l).take ((srtR k l).length - n) ++ x :: (srtR k l).drop ((srtR k l).length - n) := by
    refine insR_at (fun j y hj hy => ?_) (fun y hy => ?_)
    · have hjl := (List.getElem?_eq_some_iff.1 hy).1
      have := h1 ((srtR k l).length - 1 - j) (by omega) (by omega)
      rw [hg j hjl, List.getD_eq_getElem?_getD, hy] at this
      exact this
    · have hjl := (List.getElem?_eq_some_iff.1 hy).1
      have := h2 (by omega)
      rw [show n - 1 = (srtR k l).length - 1 - ((srtR k l).length - n) by omega, hg _ hjl, List.getD_eq_getElem?_getD, hy] at this
      exact this
  show _ = (srtR k (l ++ [x])).reverse
  rw [srtR_snoc, e]
  simp only [srt, List.reverse_append, List.reverse_cons, List.take_reverse, List.drop_reverse]
  rw [List.append_assoc]; rfl
theorem aP_D12 {A B K : Prop} (k : K) (a : A := by (simp only [zA, zT, zD, zC, zN, ints_len, zR, pks_len, Go.Cv.vals_len]; omega)) (b : B := by (simp only [zA, zT, zD, zC, zN, ints_len, zR, pks_len, Go.Cv.vals_len]; omega)) : (A ∧ B) ∧ K := ⟨⟨a, b⟩, k⟩
theorem rOrder_ok (p : List Pk) (hp : p.length ≤ 100) :
    Ctr Try.prog 66 [.psl 3 (pks p)] [] (fun r o => o = [] ∧ r = .psl 3 (pks (srt ptm p))) := by
  refine Ctr.imp ?_
  refine fn_intro (E := env 0) tys_ok rfl rfl rfl Try.func66 (by kernel_rfl) rfl (by kernel_rfl) ?_
  have hpl := pks_len p
  (repeat' (conv => whnf); first | (refine aC (fun _ => ?_) (fun _ => ?_) <;> try (exfalso; omega)) | refine aS ?_ | refine aG ?_ | refine aD ?_ | refine aH ?_ | refine aP_D12 ?_ | refine aI ?_ | refine aJ ?_ | refine aW (.qs [0, 1, 2, 3, 4, 5, 6, 7, 8, 9, 10, 11, 12, 13, 14, 15] .nil) ?_ | fail); all_goals try (conv => whnf)
  refine LoopOb.mk (Y := Nat) (st := fun i => ⟨[(4, i64 i), (3, .vec 0), (0, .psl 3 (pks p))], [.vec 3 (pks (srt ptm (p.take i)))]⟩)
    (inv := fun i => i ≤ p.length) (fun i => p.length - i) 0 [1] (by omega) (by (exact aL)) ?_
  intro i hi
  (repeat' (conv => whnf); first | refine aS ?_ | refine aG ?_ | refine aD ?_ | refine aH ?_ | refine aP_D12 ?_ | refine aI ?_ | refine aJ ?_ | refine aW (.qs [0, 1, 2, 3, 4, 5, 6, 7, 8, 9, 10, 11, 12, 13, 14, 15] .nil) ?_ | fail); all_goals try (conv => whnf)
  refine CondOb.mk (fun hlt => ?_) (fun hlt => ?_)
  · have hil : i < p.length := by omega
    have hg := pks_get hil
    have hsl : (srt ptm (p.take i)).length = i := by rw [srt_len, List.length_take]; omega
    have hol := pks_len (srt ptm (p.take i))
    have hat := fun n => srt_at (k := ptm) (l := p.take i) (x := p.getD i pk0) (n := n)
    have e : p.take i ++ [p.getD i pk0] = p.take (i + 1) := by
      rw [List.take_succ_eq_append_getElem hil, List.getD_eq_getElem?_getD, List.getElem?_eq_getElem hil]; rfl
    rw [e] at hat
    generalize p.getD i pk0 = x at *
    generalize hS : srt ptm (p.take (i + 1)) = S at *
    generalize srt ptm (p.take i) = o at *
    (repeat' (conv => whnf); first | (refine aC (fun _ => ?_) (fun _ => ?_) <;> try (exfalso; omega)) | refine aS ?_ | refine aG ?_ | refine aD ?_ | refine aH ?_ | refine aP_D12 ?_ | refine aI ?_ | refine aJ ?_ | refine aW (.qs [0, 1, 2, 3, 4, 5, 6, 7, 8, 9, 10, 11, 12, 13, 14, 15] .nil) ?_ | fail); all_goals try (conv => whnf)
    refine LoopOb.mk (Y := Nat) (st := fun n => ⟨[(5, i64 n), (4, i64 i), (3, .vec 0), (0, .psl 3 (pks p))], [.vec 3 (pks o)]⟩)
      (inv := fun n => n ≤ i ∧ ∀ j, n ≤ j → j < i → ptm x < ptm (o.getD j pk0)) (fun n => n) i [0] ⟨by omega, fun j h1 h2 => by omega⟩ (by (exact aL)) ?_
    rintro n ⟨hn, hj⟩
    have hgo : 0 < n → (pks o)[n - 1]? = some (pkw (o.getD (n - 1) pk0)) := fun h => pks_get (by omega)
    have hj2 : 0 < n → ptm x < ptm (o.getD (n - 1) pk0) → ∀ j, n - 1 ≤ j → j < i → ptm x < ptm (o.getD j pk0) := fun h h2 j h3 h4 => by
      by_cases e : j = n - 1
      · subst e; exact h2
      · exact hj j (by omega) h4
    have hrow : List.take n o ++ x :: List.drop n o = S → (List.drop 0 (List.take n (pks o)) ++ [[i64 x.f, i64 x.t, i64 x.s]]) ++ List.drop n (List.take (pks o).length (pks o)) = pks S := fun h => by
      have e : (pks o).take (pks o).length = pks o := List.take_length; rw [← h, e]; simp [pks, List.map_take, List.map_drop]
    have hat := fun h => hat n (by omega) (fun j h1 h2 => hj j h1 (by omega)) h
    generalize o.getD (n - 1) pk0 = y at *
    (repeat' (conv => whnf); first | refine aS ?_ | refine aG ?_ | refine aD ?_ | refine aH ?_ | refine aP_D12 ?_ | refine aI ?_ | refine aJ ?_ | refine aW (.qs [0, 1, 2, 3, 4, 5, 6, 7, 8, 9, 10, 11, 12, 13, 14, 15] .nil) ?_ | fail); all_goals try (conv => whnf)
    refine CondOb.mk (fun hc => ?_) (fun hc => ?_)
    · have hgo := hgo (by omega)
      have hj2 := hj2 (by omega)
      (repeat' (conv => whnf); first | refine ⟨i, _, rfl, hg, ?_⟩ | refine ⟨_, hgo, ?_⟩ | refine ⟨n - 1, by omega, by omega, ?_⟩ | (refine aC (fun _ => ?_) (fun _ => ?_) <;> try (exfalso; omega)) | refine aS ?_ | refine aG ?_ | refine aD ?_ | refine aP_D12 ?_ | refine aI ?_ | refine aJ ?_ | refine aW (.qs [0, 1, 2, 3, 4, 5, 6, 7, 8, 9, 10, 11, 12, 13, 14, 15] .nil) ?_ | fail); all_goals try (conv => whnf)
      · exact .mk [] ⟨n - 1, [0], ⟨by omega, hj2 (by assumption)⟩, by omega, by (exact aL)⟩
      · have hat := hat fun _ => (by assumption : ¬x.t < y.t)
        refine .mk [.fz 0] ?_
        (repeat' (conv => whnf); first | refine ⟨i, _, rfl, hg, ?_⟩ | refine ⟨n, rfl, ⟨by omega, by omega⟩, ?_⟩ | (refine aC (fun _ => ?_) (fun _ => ?_) <;> try (exfalso; omega)) | refine aS ?_ | refine aG ?_ | refine aD ?_ | refine aP_D12 ?_ | refine aI ?_ | refine aJ ?_ | refine aW (.qs [0, 1, 2, 3, 4, 5, 6, 7, 8, 9, 10, 11, 12, 13, 14, 15] .nil) ?_ | refine aW (.qs [0, 1, 2, 4, 5, 6, 7, 10] (.l 3 [7] (.l 8 [] (.l 9 [] (.l 11 [] (.qs [12] .nil) .no) .no) .no) (.l 8 [] (.l 3 [] (.l 9 [] (.l 11 [] (.qs [12] .nil) .no) .no) .no) .no))) ?_ | refine And.intro ?_ ?_ | fail); all_goals try (conv => whnf)
        all_goals (refine .mk [] ⟨i + 1, [5], by omega, by omega, ?_⟩; rw [hS, ← hrow hat]; (exact aL))
    · have hat := hat fun h => absurd h (by omega)
      (repeat' (conv => whnf); first | (refine aC (fun _ => ?_) (fun _ => ?_) <;> try (exfalso; omega)) | refine aS ?_ | refine aG ?_ | refine aD ?_ | refine aP_D12 ?_ | refine aI ?_ | refine aJ ?_ | refine aW (.qs [0, 1, 2, 3, 4, 5, 6, 7, 8, 9, 10, 11, 12, 13, 14, 15] .nil) ?_ | fail); all_goals try (conv => whnf)
      refine .mk [.fz 0] ?_
      (repeat' (conv => whnf); first | refine ⟨i, _, rfl, hg, ?_⟩ | refine ⟨n, rfl, ⟨by omega, by omega⟩, ?_⟩ | (refine aC (fun _ => ?_) (fun _ => ?_) <;> try (exfalso; omega)) | refine aS ?_ | refine aG ?_ | refine aD ?_ | refine aP_D12 ?_ | refine aI ?_ | refine aJ ?_ | refine aW (.qs [0, 1, 2, 3, 4, 5, 6, 7, 8, 9, 10, 11, 12, 13, 14, 15] .nil) ?_ | refine aW (.qs [0, 1, 2, 4, 5, 6, 7, 10] (.l 3 [7] (.l 8 [] (.l 9 [] (.l 11 [] (.qs [12] .nil) .no) .no) .no) (.l 8 [] (.l 3 [] (.l 9 [] (.l 11 [] (.qs [12] .nil) .no) .no) .no) .no))) ?_ | refine And.intro ?_ ?_ | fail); all_goals try (conv => whnf)
      all_goals (refine .mk [] ⟨i + 1, [5], by omega, by omega, ?_⟩; rw [hS, ← hrow hat]; (exact aL))
  · have e : i = p.length := by omega
    subst e
    rw [List.take_length]
    (repeat' (conv => whnf); first | (refine aC (fun _ => ?_) (fun _ => ?_) <;> try (exfalso; omega)) | refine aS ?_ | refine aG ?_ | refine aD ?_ | refine aP_D12 ?_ | refine aI ?_ | refine aJ ?_ | refine aW (.qs [0, 1, 2, 3, 4, 5, 6, 7, 8, 9, 10, 11, 12, 13, 14, 15] .nil) ?_ | fail); all_goals try (conv => whnf)
    refine .mk [.fz 0] ?_
    (repeat' (conv => whnf); first | (refine aC (fun _ => ?_) (fun _ => ?_) <;> try (exfalso; omega)) | refine aS ?_ | refine aG ?_ | refine aD ?_ | refine aH ?_ | refine aP_D12 ?_ | refine aI ?_ | refine aJ ?_ | refine aW (.qs [0, 1, 2, 3, 4, 5, 6, 7, 8, 9, 10, 11, 12, 13, 14, 15] .nil) ?_ | fail); all_goals try (conv => whnf)
    exact ⟨rfl, Imp.refl _⟩
end Go.Proofs.Ytabbnnfobjifiaa
