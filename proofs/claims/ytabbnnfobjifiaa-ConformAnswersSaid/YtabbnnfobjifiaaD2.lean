/-
  A text of the proofs of this seat: lemmas that the statements' proofs use; it states nothing of the program by itself beyond the contracts that its theorems bear. Conditions: those that stand in each theorem. Its short name: D2.
-/
import Derived.Test.YtabbnnfobjifiaaC1
import Derived.Test.YtabbnnfobjifiaaW3
set_option linter.unusedVariables false
set_option linter.unusedSimpArgs false
namespace Go.Proofs.Ytabbnnfobjifiaa
open Go.Sx Go.Pk Go.Cv
set_option maxRecDepth 8000
set_option maxHeartbeats 2000000
--APPX pks_len, Go.Cv.vals_len
theorem aP_D2 {A B K : Prop} (k : K) (a : A := by (simp only [zA, zT, zD, zC, zN, ints_len, zR, pks_len, Go.Cv.vals_len]; omega)) (b : B := by (simp only [zA, zT, zD, zC, zN, ints_len, zR, pks_len, Go.Cv.vals_len]; omega)) : (A ∧ B) ∧ K := ⟨⟨a, b⟩, k⟩
theorem rVal13_ok (p : List Pk) (hp : p.length ≤ 1000000) : Ctr Try.prog 60 [.psl 3 (pks p)] [] (fun r o => o = [] ∧ r = i64 (vld p)) := by
  refine Ctr.imp ?_
  refine fn_intro (E := env 0) tys_ok rfl rfl rfl Try.func60 (by kernel_rfl) rfl (by kernel_rfl) ?_
  have hpl := pks_len p
  (repeat' (conv => whnf); first | (refine aC (fun _ => ?_) (fun _ => ?_) <;> try (exfalso; omega)) | refine aS ?_ | refine aG ?_ | refine aD ?_ | refine aH ?_ | refine aP_D2 ?_ | refine aI ?_ | refine aJ ?_ | refine aW (.qs [0, 1, 2, 3, 4, 5, 6, 7, 8, 9, 10, 11, 12] .nil) ?_ | fail); all_goals try (conv => whnf)
  · exact ⟨rfl, by unfold vld; rw [if_pos (by omega)]; exact Imp.refl _⟩
  refine LoopOb.mk (Y := Nat) (st := fun i => ⟨[(3, i64 i), (0, .psl 3 (pks p))], []⟩)
    (inv := fun i => i ≤ p.length ∧ vldN p i = 0) (fun i => p.length - i) 0 [] ⟨by omega, rfl⟩ (by (exact aL)) ?_
  rintro i ⟨hi, hv⟩
  (repeat' (conv => whnf); first | refine aS ?_ | refine aG ?_ | refine aD ?_ | refine aH ?_ | refine aP_D2 ?_ | refine aI ?_ | refine aJ ?_ | refine aW (.qs [0, 1, 2, 3, 4, 5, 6, 7, 8, 9, 10, 11, 12] .nil) ?_ | fail); all_goals try (conv => whnf)
  refine CondOb.mk (fun hlt => ?_) (fun hlt => ?_)
  · have hil : i < p.length := by omega
    have hg := pks_get hil
    have hg1 : 0 < i → (pks p)[i - 1]? = some (pkw (p.getD (i - 1) pk0)) := fun h => pks_get (by omega)
    have hs0 : vldN p (i + 1) = if bad (p.getD i pk0) then 2 else if (p.getD i pk0).t < Go.Pk.lst p i then 7 else 0 := by simp only [vldN]; rw [if_neg (by omega)]
    have hs1 : bad (p.getD i pk0) → vldN p (i + 1) = 2 := fun h => by rw [hs0, if_pos h]
    have hs2 : ¬bad (p.getD i pk0) → (p.getD i pk0).t < Go.Pk.lst p i → vldN p (i + 1) = 7 := fun h h' => by rw [hs0, if_neg h, if_pos h']
    have hs3 : ¬bad (p.getD i pk0) → ¬(p.getD i pk0).t < Go.Pk.lst p i → vldN p (i + 1) = 0 := fun h h' => by rw [hs0, if_neg h, if_neg h']
    clear hs0
    have hl : 0 < i → Go.Pk.lst p i = (p.getD (i - 1) pk0).t := fun h => by
      obtain ⟨j, rfl⟩ : ∃ j, i = j + 1 := ⟨i - 1, by omega⟩
      rfl
    have hl0 : i = 0 → Go.Pk.lst p i = 0 := fun h => by subst h; rfl
    have hE : vldN p (i + 1) ≠ 0 → vld p = vldN p (i + 1) := fun h => by
      unfold vld; rw [if_neg (by omega)]; exact vldN_ge (by omega) h
    unfold bad at hs1 hs2 hs3
    generalize p.getD (i - 1) pk0 = z at *
    generalize p.getD i pk0 = x at *
    generalize Go.Pk.lst p i = y at *
    (repeat' (conv => whnf); first | refine ⟨i - 1, _, by omega, hg1 (by omega), ?_⟩ | refine ⟨i, _, rfl, hg, ?_⟩ | (refine aC (fun _ => ?_) (fun _ => ?_) <;> try (exfalso; omega)) | refine aS ?_ | refine aG ?_ | refine aD ?_ | refine aH ?_ | refine aP_D2 ?_ | refine aI ?_ | refine aJ ?_ | refine aW (.qs [0, 1, 2, 3, 4, 5, 6, 7, 8, 9, 10, 11, 12] .nil) ?_ | fail); all_goals try (conv => whnf)
    all_goals first
      | (have e := hs3 (by omega) (by omega)
         exact ⟨i + 1, [], ⟨by omega, e⟩, by omega, by (exact aL)⟩)
      | (have e := hs1 (by omega)
         have e2 := (hE (by omega)).trans e
         rw [e2]
         exact ⟨rfl, Imp.refl _⟩)
      | (have e := hs2 (by omega) (by omega)
         have e2 := (hE (by omega)).trans e
         rw [e2]
         exact ⟨rfl, Imp.refl _⟩)
      | trace_state
  · have e : i = p.length := by omega
    subst e
    (repeat' (conv => whnf); first | (refine aC (fun _ => ?_) (fun _ => ?_) <;> try (exfalso; omega)) | refine aS ?_ | refine aG ?_ | refine aD ?_ | refine aH ?_ | refine aP_D2 ?_ | refine aI ?_ | refine aJ ?_ | refine aW (.qs [0, 1, 2, 3, 4, 5, 6, 7, 8, 9, 10, 11, 12] .nil) ?_ | fail); all_goals try (conv => whnf)
    exact ⟨rfl, by unfold vld; rw [if_neg (by omega), hv]; exact Imp.refl _⟩
/- the first error of the arguments -/
inductive ChkR (p : List Pk) (flow : Int) (V : Prop) (e : Int) : Prop
  | vld (h : vld p ≠ 0) (he : e = Go.Pk.vld p)
  | flow (h : Go.Pk.vld p = 0) (hf : flow < -1) (he : e = 2)
  | curve (h : Go.Pk.vld p = 0) (hf : -1 ≤ flow) (hv : ¬V) (he : e = 1)
  | ok (h : Go.Pk.vld p = 0) (hf : -1 ≤ flow) (hv : V) (he : e = 0)
theorem ChkR.uniq {p : List Pk} {flow : Int} {V : Prop} {e e' : Int} (h : ChkR p flow V e) (h' : ChkR p flow V e') : e = e' := by
  cases h <;> cases h' <;> first | omega | contradiction
theorem checkG_ok (p : List Pk) (hp : p.length ≤ 1000000) (flow : Int) (vs : List Int) (q i : Int) (hv : vs.length ≤ 1000000) : Ctr Try.prog 42 [.psl 3 (pks p), i64 flow, crv vs q i] [] (fun r o => ∃ e : Int, ChkR p flow (ValidP vs q i) e ∧ o = [] ∧ r = i64 e) := by
  refine Ctr.impE (Q := fun e => ChkR p flow (ValidP vs q i) e) (s := fun e => i64 e) (ow := fun _ => []) ?_
  refine fn_intro (E := env 0) tys_ok rfl rfl rfl Try.func42 (by kernel_rfl) rfl (by kernel_rfl) ?_
  have cV := Validate_ok p (by omega)
  have hw : ∀ e, e = vld p → e ≠ 0 → ChkR p flow (ValidP vs q i) e := fun e h1 h2 => .vld (by omega) h1
  generalize hvp : vld p = v at *
  (repeat' (conv => whnf); first | (refine aC (fun _ => ?_) (fun _ => ?_) <;> try (exfalso; omega)) | refine aS ?_ | refine aG ?_ | refine aD ?_ | refine aH ?_ | refine aP_D2 ?_ | refine aI ?_ | refine aJ ?_ | (refine aK [] cV ?_) | (refine aK [] (CValid_ok vs q i (by omega)) ?_) | fail); all_goals try (conv => whnf)
  all_goals first
    | exact ⟨v, hw v rfl (by omega), rfl, Imp.refl _⟩
    | exact ⟨2, .flow (by omega) (by omega) rfl, rfl, Imp.refl _⟩
    | exact ⟨1, .curve (by omega) (by omega) (by assumption) rfl, rfl, Imp.refl _⟩
    | exact ⟨0, .ok (by omega) (by omega) (Classical.not_not.1 (by assumption)) rfl, rfl, Imp.refl _⟩
    | trace_state
theorem rbadG_ok (p : List Pk) (hp : p.length ≤ 1000000) (flow : Int) (vs : List Int) (q i : Int) (hv : vs.length ≤ 1000000) : Ctr Try.prog 63 [.psl 3 (pks p), i64 flow, crv vs q i] [] (fun r o => ∃ e : Int, ChkR p flow (ValidP vs q i) e ∧ o = [] ∧ r = i64 e) := by
  refine Ctr.impE (Q := fun e => ChkR p flow (ValidP vs q i) e) (s := fun e => i64 e) (ow := fun _ => []) ?_
  refine fn_intro (E := env 0) tys_ok rfl rfl rfl Try.func63 (by kernel_rfl) rfl (by kernel_rfl) ?_
  have cV := rVal13_ok p (by omega)
  have hw : ∀ e, e = vld p → e ≠ 0 → ChkR p flow (ValidP vs q i) e := fun e h1 h2 => .vld (by omega) h1
  generalize hvp : vld p = v at *
  (repeat' (conv => whnf); first | (refine aC (fun _ => ?_) (fun _ => ?_) <;> try (exfalso; omega)) | refine aS ?_ | refine aG ?_ | refine aD ?_ | refine aH ?_ | refine aP_D2 ?_ | refine aI ?_ | refine aJ ?_ | (refine aK [] cV ?_) | (refine aK [] (Valid_ok vs q i) ?_) | fail); all_goals try (conv => whnf)
  all_goals first
    | exact ⟨v, hw v rfl (by omega), rfl, Imp.refl _⟩
    | exact ⟨2, .flow (by omega) (by omega) rfl, rfl, Imp.refl _⟩
    | exact ⟨1, .curve (by omega) (by omega) (by assumption) rfl, rfl, Imp.refl _⟩
    | exact ⟨0, .ok (by omega) (by omega) (Classical.not_not.1 (by assumption)) rfl, rfl, Imp.refl _⟩
    | trace_state
end Go.Proofs.Ytabbnnfobjifiaa
