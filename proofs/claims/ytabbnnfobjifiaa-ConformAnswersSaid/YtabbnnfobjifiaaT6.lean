/-
  A text of the proofs of this seat: lemmas that the statements' proofs use; it states nothing of the program by itself beyond the contracts that its theorems bear. Conditions: those that stand in each theorem. Its short name: T6 C5 C13 Wb.
-/
import Derived.Test.YtabbnnfobjifiaaT5
import Derived.Test.YtabbnnfobjifiaaPl
import Derived.Test.YtabbnnfobjifiaaC3
import Derived.Test.YtabbnnfobjifiaaDe
import Derived.Test.YtabbnnfobjifiaaW3
set_option linter.unusedVariables false
set_option linter.unusedSimpArgs false
section
namespace Go.Proofs.Ytabbnnfobjifiaa
open Go.Sx Go.Pk Go.Cv Go.St
set_option maxRecDepth 4000
set_option maxHeartbeats 2000000
--APPX pks_len
theorem aP_T6 {A B K : Prop} (k : K) (a : A := by (simp only [zA, zT, zD, zC, zN, ints_len, zR, pks_len]; omega)) (b : B := by (simp only [zA, zT, zD, zC, zN, ints_len, zR, pks_len]; omega)) : (A ∧ B) ∧ K := ⟨⟨a, b⟩, k⟩
theorem OrdC_ok : CmpOK 75 ptm := by
  intro a b
  refine Ctr.impE (Q := fun c => c < 0 ↔ a.t < b.t) (s := fun c => i64 c) (ow := fun _ => []) ?_
  refine fn_intro (E := env 0) tys_ok rfl rfl rfl Try.func75 (by kernel_rfl) rfl (by kernel_rfl) ?_
  (repeat' (conv => whnf); first | (refine aC (fun _ => ?_) (fun _ => ?_) <;> try (exfalso; omega)) | refine aS ?_ | refine aG ?_ | refine aD ?_ | refine aH ?_ | refine aP_T6 ?_ | refine aI ?_ | refine aJ ?_ | fail); all_goals try (conv => whnf)
  all_goals first
    | exact ⟨-1, by omega, rfl, Imp.refl _⟩
    | exact ⟨1, by omega, rfl, Imp.refl _⟩
    | exact ⟨0, by omega, rfl, Imp.refl _⟩
    | trace_state
theorem pClone_ok (l : List Pk) (hl : l.length ≤ 1000000) : Ctr Try.prog 44 [.psl 3 (pks l)] [] (fun r o => o = [.vec 3 (pks l)] ∧ r = .vec 0) := by
  refine fn_intro (E := env 0) tys_ok rfl rfl rfl Try.func44 (by kernel_rfl) rfl (by kernel_rfl) ?_
  have hpl := pks_len l
  cases l with
  | nil =>
    (repeat' (conv => whnf); first | refine EqnOb.unk fun p => ?_ | (refine aC (fun _ => ?_) (fun _ => ?_) <;> try (exfalso; omega)) | refine aS ?_ | refine aG ?_ | refine aD ?_ | refine aP_T6 ?_ | refine aI ?_ | refine aJ ?_ | fail); all_goals try (conv => whnf)
    · refine .mk [.wk [1] ⟨[(2, .vec 0)], [.vec 3 (pks [])]⟩] ⟨by (exact aL), ?_⟩
      (repeat' (conv => whnf); first | refine aC (fun _ => ?_) (fun _ => ?_) | refine aS ?_ | refine aG ?_ | refine aD ?_ | refine aH ?_ | refine aP_T6 ?_ | refine aI ?_ | refine aJ ?_ | fail); all_goals try (conv => whnf)
      exact ⟨rfl, rfl⟩
    · refine .mk [.wk [2] ⟨[(2, .vec 0)], [.vec 3 (pks [])]⟩] ⟨by (exact aL), ?_⟩
      (repeat' (conv => whnf); first | refine aC (fun _ => ?_) (fun _ => ?_) | refine aS ?_ | refine aG ?_ | refine aD ?_ | refine aH ?_ | refine aP_T6 ?_ | refine aI ?_ | refine aJ ?_ | fail); all_goals try (conv => whnf)
      exact ⟨rfl, rfl⟩
  | cons x l =>
    generalize hxl : x :: l = l' at *
    have hne : pks l' ≠ [] := by rw [← hxl]; simp
    (repeat' (conv => whnf); first | refine EqnOb.ne hne ?_ | (refine aC (fun _ => ?_) (fun _ => ?_) <;> try (exfalso; omega)) | refine aS ?_ | refine aG ?_ | refine aD ?_ | refine aP_T6 ?_ | refine aI ?_ | refine aJ ?_ | fail); all_goals try (conv => whnf)
    refine .mk [.wk [2] ⟨[(2, .vec 0)], [.vec 3 (pks l')]⟩] ⟨by (exact aL), ?_⟩
    (repeat' (conv => whnf); first | refine aC (fun _ => ?_) (fun _ => ?_) | refine aS ?_ | refine aG ?_ | refine aD ?_ | refine aH ?_ | refine aP_T6 ?_ | refine aI ?_ | refine aJ ?_ | fail); all_goals try (conv => whnf)
    exact ⟨rfl, rfl⟩
/- lists of packets that are the same -/
theorem pSame_ok (a b : List Pk) (ha : a.length ≤ 1000000) : Ctr Try.prog 16 [.psl 3 (pks a), .psl 3 (pks b)] [] (fun r o => o = [] ∧ r = .bp (a = b)) := by
  refine Ctr.imp ?_
  refine fn_intro (E := env 0) tys_ok rfl rfl rfl Try.func16 (by kernel_rfl) rfl (by kernel_rfl) ?_
  have hal := pks_len a
  have hbl := pks_len b
  (repeat' (conv => whnf); first | (refine aC (fun _ => ?_) (fun _ => ?_) <;> try (exfalso; omega)) | refine aS ?_ | refine aG ?_ | refine aD ?_ | refine aH ?_ | refine aP_T6 ?_ | refine aI ?_ | refine aJ ?_ | refine aW (.qs [0, 1, 2, 3, 4, 5, 6, 7, 8] .nil) ?_ | fail); all_goals try (conv => whnf)
  · exact ⟨rfl, Imp.bl ⟨fun h => (by cases h), fun h => by subst h; omega⟩⟩
  refine LoopOb.mk (Y := Nat) (st := fun i => ⟨[(5, i64 i), (0, .psl 3 (pks a)), (1, .psl 3 (pks b))], []⟩)
    (inv := fun i => i ≤ a.length ∧ ∀ j, j < i → a.getD j pk0 = b.getD j pk0) (fun i => a.length - i) 0 [] ⟨by omega, by omega⟩ (by (exact aL)) ?_
  rintro i ⟨hi, hv⟩
  (repeat' (conv => whnf); first | refine aS ?_ | refine aG ?_ | refine aD ?_ | refine aH ?_ | refine aP_T6 ?_ | refine aI ?_ | refine aJ ?_ | refine aW (.qs [0, 1, 2, 3, 4, 5, 6, 7, 8] .nil) ?_ | fail); all_goals try (conv => whnf)
  refine CondOb.mk (fun hlt => ?_) (fun hlt => ?_)
  · have hga := pks_get (l := a) (j := i) (by omega)
    have hgb := pks_get (l := b) (j := i) (by omega)
    have hst : a.getD i pk0 = b.getD i pk0 → ∀ j, j < i + 1 → a.getD j pk0 = b.getD j pk0 := fun h j hj => by
      by_cases e : j = i
      · subst e; exact h
      · exact hv j (by omega)
    have hne : ¬a.getD i pk0 = b.getD i pk0 → ¬a = b := fun h e => h (by rw [e])
    generalize a.getD i pk0 = x at *
    generalize b.getD i pk0 = y at *
    obtain ⟨x1, x2, x3⟩ := x
    obtain ⟨y1, y2, y3⟩ := y
    simp only [Pk.mk.injEq] at hst hne
    (repeat' (conv => whnf); first | refine ⟨i, _, rfl, hgb, ?_⟩ | refine ⟨i, _, rfl, hga, ?_⟩ | (refine aC (fun _ => ?_) (fun _ => ?_) <;> try (exfalso; omega)) | refine aS ?_ | refine aG ?_ | refine aD ?_ | refine aH ?_ | refine aP_T6 ?_ | refine aI ?_ | refine aJ ?_ | refine aW (.qs [0, 1, 2, 3, 4, 5, 6, 7, 8] .nil) ?_ | fail); all_goals try (conv => whnf)
    · rename_i hcj
      have h := hne fun h => hcj (by simpa [conj] using h)
      exact ⟨rfl, Imp.bl ⟨fun h => (by cases h), fun h' => absurd h' h⟩⟩
    · rename_i hcj
      have h := Classical.not_not.1 hcj
      exact ⟨i + 1, [], ⟨by omega, hst (by simpa [conj] using h)⟩, by omega, by (exact aL)⟩
  · have e : i = a.length := by omega
    (repeat' (conv => whnf); first | (refine aC (fun _ => ?_) (fun _ => ?_) <;> try (exfalso; omega)) | refine aS ?_ | refine aG ?_ | refine aD ?_ | refine aH ?_ | refine aP_T6 ?_ | refine aI ?_ | refine aJ ?_ | refine aW (.qs [0, 1, 2, 3, 4, 5, 6, 7, 8] .nil) ?_ | fail); all_goals try (conv => whnf)
    refine ⟨rfl, Imp.bl ⟨fun _ => ?_, fun _ => rfl⟩⟩
    apply List.ext_getElem (by omega)
    intro j h1 h2
    have := hv j (by omega)
    simpa [List.getD_eq_getElem?_getD, h1, h2] using this
end Go.Proofs.Ytabbnnfobjifiaa
end
section
namespace Go.Proofs.Ytabbnnfobjifiaa
open Go.Sx Go.Pk Go.Cv Go.St
set_option maxRecDepth 8000
set_option maxHeartbeats 2000000
--APPX pks_len, Go.Cv.vals_len
theorem aP_C5 {A B K : Prop} (k : K) (a : A := by (simp only [zA, zT, zD, zC, zN, ints_len, zR, pks_len, Go.Cv.vals_len]; omega)) (b : B := by (simp only [zA, zT, zD, zC, zN, ints_len, zR, pks_len, Go.Cv.vals_len]; omega)) : (A ∧ B) ∧ K := ⟨⟨a, b⟩, k⟩
theorem mine_ok (x : Pk) (flow : Int) : Ctr Try.prog 45 [.agg (pkw x), i64 flow] [] (fun r o => o = [] ∧ r = .bp (mine flow x)) := by
  refine Ctr.imp ?_
  refine fn_intro (E := env 0) tys_ok rfl rfl rfl Try.func45 (by kernel_rfl) rfl (by kernel_rfl) ?_
  (repeat' (conv => whnf); first | (refine aC (fun _ => ?_) (fun _ => ?_) <;> try (exfalso; omega)) | refine aS ?_ | refine aG ?_ | refine aD ?_ | refine aH ?_ | refine aP_C5 ?_ | refine aI ?_ | refine aJ ?_ | fail); all_goals try (conv => whnf)
  · exact ⟨rfl, Imp.bl ⟨fun _ => .inl (by assumption), fun _ => rfl⟩⟩
  · exact ⟨rfl, Imp.bp ⟨fun h => .inr h, fun h => by rcases h with h | h; exact absurd h (by assumption); exact h⟩⟩
end Go.Proofs.Ytabbnnfobjifiaa
end
section
namespace Go.Proofs.Ytabbnnfobjifiaa
open Go.Sx Go.Pk Go.Cv Go.St
set_option maxRecDepth 8000
set_option maxHeartbeats 2000000
--APPX pks_len, Go.Cv.vals_len
theorem ints_app13 (l : List Int) (v : Int) : ints (l ++ [v]) = ints l ++ [[i64 v]] := by simp [ints]
end Go.Proofs.Ytabbnnfobjifiaa
end
section
namespace Go.Proofs.Ytabbnnfobjifiaa
open Go.Sx Go.Cv
set_option maxRecDepth 4000
theorem aP_Wb {A B K : Prop} (k : K) (a : A := by (simp only [zA, zT, zD, zC, zN, ints_len, zR, Go.Cv.vals_len]; omega)) (b : B := by (simp only [zA, zT, zD, zC, zN, ints_len, zR, Go.Cv.vals_len]; omega)) : (A ∧ B) ∧ K := ⟨⟨a, b⟩, k⟩
/-! values far out, where the growth stays small -/
theorem WAtB_ok (vs : List Int) (p : Nat) (q t : Int) (hb : Bd vs p q) (ht : 0 ≤ t) (ht2 : t ≤ 4000000000000000000) (hk : ((t.toNat - vs.length) / p + 1 : Nat) * q ≤ 4600000000000000000) :
    Ctr Try.prog 72 [crv vs p q, i64 t] [] (fun r o => o = [] ∧ r = i64 (val vs p q t.toNat)) := by
  obtain ⟨p1, pn, hn, q0, q1, hv⟩ := hb
  obtain ⟨t, rfl⟩ := Int.eq_ofNat_of_zero_le ht
  simp only [Int.toNat_natCast] at hk ⊢
  refine fn_intro (E := env 0) tys_ok rfl rfl rfl Try.func72 (by kernel_rfl) rfl (by kernel_rfl) ?_
  (repeat' (conv => whnf); first | refine aC (fun _ => ?_) (fun _ => ?_) | refine aS ?_ | refine aG ?_ | refine aD ?_ | refine aH ?_ | refine aP_Wb ?_ | refine aI ?_ | refine aJ ?_ | fail); all_goals try (conv => whnf)
  all_goals try (simp only [ints_len] at *)
  all_goals try omega
  · exact ⟨trivial, by simp only [oneS]; rw [val_lt (by omega)]⟩
  · have hle : vs.length ≤ t := by omega
    have e1 : ((t : Int) - vs.length).tdiv p = ((t - vs.length) / p : Nat) := by
      rw [Int.tdiv_eq_ediv_of_nonneg (by omega)]
      push_cast [Int.ofNat_sub hle]; rfl
    have hx := at_idx hle p1 pn
    have hd : (t - vs.length) / p ≤ t - vs.length := Nat.div_le_self _ _
    have hval : val vs p q t = if vs.getD (t - ((t - vs.length) / p + 1) * p) 0 = INF then INF else vs.getD (t - ((t - vs.length) / p + 1) * p) 0 + ((t - vs.length) / p + 1 : Nat) * q := by
      simp only [val]; rw [if_neg (by omega)]
    rw [hval, e1]
    generalize (t - vs.length) / p = k at *
    have e3 : ((k : Int) + 1) * (p : Int) = ((k + 1) * p : Nat) := by push_cast; rfl
    have hkq : 0 ≤ ((k : Int) + 1) * q ∧ ((k : Int) + 1) * q ≤ 4600000000000000000 := ⟨Int.mul_nonneg (by omega) (by omega), by push_cast at hk; exact hk⟩
    have hv1 := hv ((t : Int) - ((k : Int) + 1) * p).toNat
    refine ⟨by omega, ?_⟩
    (repeat' (conv => whnf); first | refine aC (fun _ => ?_) (fun _ => ?_) | refine aS ?_ | refine aG ?_ | refine aD ?_ | refine aH ?_ | refine aP_Wb ?_ | refine aI ?_ | refine aJ ?_ | fail); all_goals try (conv => whnf)
    all_goals rw [show ((t : Int) - ((k : Int) + 1) * p).toNat = t - (k + 1) * p by omega] at *
    · exact ⟨rfl, by simp only [oneS]; rw [if_pos (by assumption)]; congr 1⟩
    · exact ⟨rfl, by simp only [oneS]; rw [if_neg (by assumption)]; push_cast; rfl⟩
end Go.Proofs.Ytabbnnfobjifiaa
end
