/-
  A text of the proofs of this seat: lemmas that the statements' proofs use; it states nothing of the program by itself beyond the contracts that its theorems bear. Conditions: those that stand in each theorem. Its short name: D1 D6 T4.
-/
import Derived.Test.YtabbnnfobjifiaaT1
import Derived.Test.YtabbnnfobjifiaaW3
import Derived.Test.YtabbnnfobjifiaaPl
import Derived.Test.YtabbnnfobjifiaaD5
import Derived.Test.YtabbnnfobjifiaaT2
set_option linter.unusedVariables false
set_option linter.unusedSimpArgs false
section
namespace Go.Proofs.Ytabbnnfobjifiaa
open Go.Sx Go.Pk Go.Cv Go.St
set_option maxRecDepth 8000
set_option maxHeartbeats 2000000
--APPX pks_len, Go.Cv.vals_len
/- a packet may follow, as the document says -/
def PsP (f : C3) (R : List (Int × Int)) (y : Int × Int) : Prop := y.2 ≤ cv f 1 ∧ ∀ m, m < R.length → y.2 + sm R (m + 1) ≤ cv f (y.1 + 1 - (R.getD m g0).1).toNat
theorem rv_getD {B : List Pk} {m i : Nat} (h : i + 1 + m = B.length) : (rv B).getD m g0 = gp (B.getD i pk0) := by
  unfold rv
  rw [List.getD_eq_getElem?_getD, List.getElem?_reverse (by rw [List.length_map]; omega), List.length_map, show B.length - 1 - m = i by omega, List.getElem?_map, List.getD_eq_getElem?_getD, List.getElem?_eq_getElem (by omega)]; rfl
theorem sm_succ {R : List (Int × Int)} {m : Nat} (h : m < R.length) : sm R (m + 1) = sm R m + (R.getD m g0).2 := by
  unfold sm
  rw [sumA_take _ h, List.getD_eq_getElem?_getD, List.getElem?_eq_getElem h]; rfl
theorem aP_D1 {A B K : Prop} (k : K) (a : A := by (simp only [zA, zT, zD, zC, zN, ints_len, zR, pks_len, Go.Cv.vals_len]; omega)) (b : B := by (simp only [zA, zT, zD, zC, zN, ints_len, zR, pks_len, Go.Cv.vals_len]; omega)) : (A ∧ B) ∧ K := ⟨⟨a, b⟩, k⟩
theorem passes_ok (B : List Pk) (x : Pk) (f : C3) (vf : VC f) (hB : B.length ≤ 100) (hb : ∀ y ∈ B, 0 ≤ y.t ∧ y.t ≤ x.t + 1 ∧ 0 ≤ y.s ∧ y.s ≤ 1000000) (hx : 0 ≤ x.t ∧ x.t ≤ 100000 ∧ 0 ≤ x.s ∧ x.s ≤ 1000000) :
    Ctr Try.prog 65 [.vec 0, .agg (pkw x), crv f.1 f.2.1 f.2.2] [.vec 3 (pks B)] (fun r o => o = [.vec 3 (pks B)] ∧ r = .bp (PsP f (rv B) (gp x))) := by
  refine Ctr.imp ?_
  refine fn_intro (E := env 1) tys_ok rfl rfl rfl Try.func65 (by kernel_rfl) rfl (by kernel_rfl) ?_
  have hpl := pks_len B
  have c1 := rAt_ok f 1 vf (by omega)
  (repeat' (conv => whnf); first | (refine aC (fun _ => ?_) (fun _ => ?_) <;> try (exfalso; omega)) | refine aS ?_ | refine aG ?_ | refine aD ?_ | refine aH ?_ | refine aP_D1 ?_ | refine aI ?_ | refine aJ ?_ | refine aW (.qs [0, 1, 2, 3, 4, 5, 6, 7, 8, 9, 10] (.l 11 [] (.qs [12] .nil) .no)) ?_ | (refine aK [] c1 ?_) | fail); all_goals try (conv => whnf)
  · exact ⟨rfl, Imp.bl ⟨fun h => (by cases h), fun h => by have := h.1; dsimp only at this; omega⟩⟩
  have hrl : (rv B).length = B.length := by simp [rv]
  refine LoopOb.mk (Y := Nat) (st := fun m => ⟨[(8, i64 ((B.length : Int) - 1 - m)), (7, i64 (x.s + sm (rv B) m)), (5, .ptr 2 0), (4, .ptr 1 0), (0, .vec 0)], [.vec 3 (pks B), .box (pkw x), .box [.psl 1 (ints f.1), i64 f.2.1, i64 f.2.2]]⟩)
    (inv := fun m => m ≤ B.length ∧ (0 ≤ sm (rv B) m ∧ sm (rv B) m ≤ 1000000 * m) ∧ ∀ q, q < m → x.s + sm (rv B) (q + 1) ≤ cv f (x.t + 1 - ((rv B).getD q g0).1).toNat) (fun m => B.length - m) 0 [0, 1, 2] ⟨by omega, ⟨by simp [sm, sumA], by simp [sm, sumA]⟩, fun q hq => by omega⟩ (by
      have e : sm (rv B) 0 = 0 := rfl
      rw [e]; (exact aL)) ?_
  rintro m ⟨hm, ⟨hs0, hs1⟩, hq⟩
  (repeat' (conv => whnf); first | refine aS ?_ | refine aG ?_ | refine aD ?_ | refine aH ?_ | refine aP_D1 ?_ | refine aI ?_ | refine aJ ?_ | refine aW (.qs [0, 1, 2, 3, 4, 5, 6, 7, 8, 9, 10] (.l 11 [] (.qs [12] .nil) .no)) ?_ | fail); all_goals try (conv => whnf)
  refine CondOb.mk (fun hlt => ?_) (fun hlt => ?_)
  · obtain ⟨i, hi⟩ : ∃ i : Nat, (B.length : Int) - 1 - m = i := ⟨B.length - 1 - m, by omega⟩
    have hg := pks_get (l := B) (j := i) (by omega)
    have hr := rv_getD (B := B) (m := m) (i := i) (by omega)
    have hss := sm_succ (R := rv B) (m := m) (by omega)
    have hyb := hb _ (getD_memP (l := B) (i := i) (by omega))
    rw [hr] at hss
    generalize B.getD i pk0 = y at *
    have cA := rAt_ok f (x.t + 1 - y.t).toNat vf (by omega)
    have hq2 : x.s + sm (rv B) m + y.s ≤ cv f (x.t + 1 - y.t).toNat → ∀ q, q < m + 1 → x.s + sm (rv B) (q + 1) ≤ cv f (x.t + 1 - ((rv B).getD q g0).1).toNat := fun h q hq1 => by
      by_cases e : q = m
      · subst e; rw [hss, hr]; dsimp only; omega
      · exact hq q (by omega)
    have hno : ¬x.s + sm (rv B) m + y.s ≤ cv f (x.t + 1 - y.t).toNat → ¬PsP f (rv B) (gp x) := fun h h2 => by
      have h3 := h2.2 m (by omega)
      rw [hss, hr] at h3
      dsimp only at h3
      omega
    dsimp only at hss
    (repeat' (conv => whnf); first | refine ⟨_, hg, ?_⟩ | refine ⟨i, by omega, by omega, ?_⟩ | (refine aC (fun _ => ?_) (fun _ => ?_) <;> try (exfalso; omega)) | refine aS ?_ | refine aG ?_ | refine aD ?_ | refine aH ?_ | refine aP_D1 ?_ | refine aI ?_ | refine aJ ?_ | refine aW (.qs [0, 1, 2, 3, 4, 5, 6, 7, 8, 9, 10] (.l 11 [] (.qs [12] .nil) .no)) ?_ | (refine CallOb.mk [] cA rfl ⟨Imp.refl _, Imp.num (by omega), trivial⟩ rfl rfl ?_; rintro _ _ ⟨rfl, rfl⟩) | fail); all_goals try (conv => whnf)
    all_goals first
      | (refine ⟨rfl, Imp.bl ⟨fun h => (by cases h), fun h => absurd h (hno (by omega))⟩⟩; done)
      | (refine ⟨m + 1, [0, 1, 2], ⟨by omega, ⟨by omega, by push_cast; omega⟩, hq2 (by omega)⟩, by omega, ?_⟩; rw [hss]; (exact aL); done)
      | trace_state
  · have e : m = B.length := by omega
    subst e
    (repeat' (conv => whnf); first | (refine aC (fun _ => ?_) (fun _ => ?_) <;> try (exfalso; omega)) | refine aS ?_ | refine aG ?_ | refine aD ?_ | refine aH ?_ | refine aP_D1 ?_ | refine aI ?_ | refine aJ ?_ | refine aW (.qs [0, 1, 2, 3, 4, 5, 6, 7, 8, 9, 10] (.l 11 [] (.qs [12] .nil) .no)) ?_ | fail); all_goals try (conv => whnf)
    exact ⟨rfl, Imp.bl ⟨fun _ => ⟨by dsimp only; omega, fun q hq1 => hq q (by omega)⟩, fun _ => rfl⟩⟩
end Go.Proofs.Ytabbnnfobjifiaa
end
section
namespace Go.Proofs.Ytabbnnfobjifiaa
open Go.Sx Go.Pk Go.Cv Go.St
set_option maxRecDepth 8000
set_option maxHeartbeats 2000000
--APPX pks_len, Go.Cv.vals_len
theorem aP_D6 {A B K : Prop} (k : K) (a : A := by (simp only [zA, zT, zD, zC, zN, ints_len, zR, pks_len, Go.Cv.vals_len]; omega)) (b : B := by (simp only [zA, zT, zD, zC, zN, ints_len, zR, pks_len, Go.Cv.vals_len]; omega)) : (A ∧ B) ∧ K := ⟨⟨a, b⟩, k⟩
theorem rKeepsG_ok (p : List Pk) (hp : p.length ≤ 1000000) (flow : Int) (vs : List Int) (q i : Int) (hv : vs.length ≤ 1000000) :
    Ctr Try.prog 34 [.psl 3 (pks p), i64 flow, crv vs q i] [] (fun r o => ∃ x : (Int × Int × Bool) × Int, VioG p flow vs q i x ∧ o = [] ∧ r = .bp (x.2 = 0 ∧ x.1.2.2 = false)) := by
  refine Ctr.impE (Q := fun x => VioG p flow vs q i x) (s := fun x => .bp (x.2 = 0 ∧ x.1.2.2 = false)) (ow := fun _ => []) ?_
  refine fn_intro (E := env 0) tys_ok rfl rfl rfl Try.func34 (by kernel_rfl) rfl (by kernel_rfl) ?_
  have cV := rVioG_ok p hp flow vs q i hv
  (repeat' (conv => whnf); first | (refine aC (fun _ => ?_) (fun _ => ?_) <;> try (exfalso; omega)) | refine aS ?_ | refine aG ?_ | refine aD ?_ | refine aH ?_ | refine aP_D6 ?_ | refine aI ?_ | refine aJ ?_ | fail); all_goals try (conv => whnf)
  refine CallOb.mk [] cV rfl (ImpL.refl _) rfl rfl ?_
  rintro _ _ ⟨⟨⟨x1, x2, x3⟩, x4⟩, hx, rfl, rfl⟩
  cases x3
  · dsimp only
    (repeat' (conv => whnf); first | (refine aC (fun _ => ?_) (fun _ => ?_) <;> try (exfalso; omega)) | refine aS ?_ | refine aG ?_ | refine aD ?_ | refine aH ?_ | refine aP_D6 ?_ | refine aI ?_ | refine aJ ?_ | fail); all_goals try (conv => whnf)
    all_goals first
      | exact ⟨((x1, x2, false), x4), hx, rfl, Imp.bl ⟨fun _ => ⟨by assumption, rfl⟩, fun _ => rfl⟩⟩
      | exact ⟨((x1, x2, false), x4), hx, rfl, Imp.bl ⟨fun h => (by cases h), fun h => absurd h.1 (by assumption)⟩⟩
      | exact ⟨((x1, x2, false), x4), hx, rfl, Imp.bl ⟨fun h => (by cases h), fun h => (by have h2 := h.2; cases h2)⟩⟩
      | trace_state
  · dsimp only
    (repeat' (conv => whnf); first | (refine aC (fun _ => ?_) (fun _ => ?_) <;> try (exfalso; omega)) | refine aS ?_ | refine aG ?_ | refine aD ?_ | refine aH ?_ | refine aP_D6 ?_ | refine aI ?_ | refine aJ ?_ | fail); all_goals try (conv => whnf)
    all_goals first
      | exact ⟨((x1, x2, true), x4), hx, rfl, Imp.bl ⟨fun _ => ⟨by assumption, rfl⟩, fun _ => rfl⟩⟩
      | exact ⟨((x1, x2, true), x4), hx, rfl, Imp.bl ⟨fun h => (by cases h), fun h => absurd h.1 (by assumption)⟩⟩
      | exact ⟨((x1, x2, true), x4), hx, rfl, Imp.bl ⟨fun h => (by cases h), fun h => (by have h2 := h.2; cases h2)⟩⟩
      | trace_state
theorem cKeepsG_ok (p : List Pk) (hp : p.length ≤ 1000000) (flow : Int) (vs : List Int) (q i : Int) (hv : vs.length ≤ 1000000) :
    Ctr Try.prog 17 [.psl 3 (pks p), i64 flow, crv vs q i] [] (fun r o => ∃ x : (Int × Int × Bool) × Int, VioG p flow vs q i x ∧ o = [] ∧ r = .bp (x.2 = 0 ∧ x.1.2.2 = false)) := by
  refine Ctr.impE (Q := fun x => VioG p flow vs q i x) (s := fun x => .bp (x.2 = 0 ∧ x.1.2.2 = false)) (ow := fun _ => []) ?_
  refine fn_intro (E := env 0) tys_ok rfl rfl rfl Try.func17 (by kernel_rfl) rfl (by kernel_rfl) ?_
  have cV := cVioG_ok p hp flow vs q i hv
  (repeat' (conv => whnf); first | (refine aC (fun _ => ?_) (fun _ => ?_) <;> try (exfalso; omega)) | refine aS ?_ | refine aG ?_ | refine aD ?_ | refine aH ?_ | refine aP_D6 ?_ | refine aI ?_ | refine aJ ?_ | fail); all_goals try (conv => whnf)
  refine CallOb.mk [] cV rfl (ImpL.refl _) rfl rfl ?_
  rintro _ _ ⟨⟨⟨x1, x2, x3⟩, x4⟩, hx, rfl, rfl⟩
  cases x3
  · dsimp only
    (repeat' (conv => whnf); first | (refine aC (fun _ => ?_) (fun _ => ?_) <;> try (exfalso; omega)) | refine aS ?_ | refine aG ?_ | refine aD ?_ | refine aH ?_ | refine aP_D6 ?_ | refine aI ?_ | refine aJ ?_ | fail); all_goals try (conv => whnf)
    all_goals first
      | exact ⟨((x1, x2, false), x4), hx, rfl, Imp.bl ⟨fun _ => ⟨by assumption, rfl⟩, fun _ => rfl⟩⟩
      | exact ⟨((x1, x2, false), x4), hx, rfl, Imp.bl ⟨fun h => (by cases h), fun h => absurd h.1 (by assumption)⟩⟩
      | exact ⟨((x1, x2, false), x4), hx, rfl, Imp.bl ⟨fun h => (by cases h), fun h => (by have h2 := h.2; cases h2)⟩⟩
      | trace_state
  · dsimp only
    (repeat' (conv => whnf); first | (refine aC (fun _ => ?_) (fun _ => ?_) <;> try (exfalso; omega)) | refine aS ?_ | refine aG ?_ | refine aD ?_ | refine aH ?_ | refine aP_D6 ?_ | refine aI ?_ | refine aJ ?_ | fail); all_goals try (conv => whnf)
    all_goals first
      | exact ⟨((x1, x2, true), x4), hx, rfl, Imp.bl ⟨fun _ => ⟨by assumption, rfl⟩, fun _ => rfl⟩⟩
      | exact ⟨((x1, x2, true), x4), hx, rfl, Imp.bl ⟨fun h => (by cases h), fun h => absurd h.1 (by assumption)⟩⟩
      | exact ⟨((x1, x2, true), x4), hx, rfl, Imp.bl ⟨fun h => (by cases h), fun h => (by have h2 := h.2; cases h2)⟩⟩
      | trace_state
/- as the document says, and as the code looks for it -/
theorem psp_ear {f : C3} (vf : VC f) {R : List (Int × Int)} {y : Int × Int} (h : ∀ m, m < R.length → 0 ≤ (R.getD m g0).1 ∧ (R.getD m g0).1 ≤ y.1) (hy : y.1 ≤ 100000) : PsP f R y ↔ ear f R y.1 y.2 = some y.1 := by
  constructor
  · rintro ⟨h1, h2⟩
    unfold ear
    rw [if_neg (by omega)]
    refine erl_self fun m hm => ?_
    obtain ⟨h3, h4⟩ := h m hm
    obtain ⟨k, h5, h6⟩ := rch_le vf (by omega) (h2 m hm)
    exact ⟨h4, k, h6, by omega⟩
  · intro he
    obtain ⟨h1, h2⟩ := ear_facts he
    obtain ⟨_, h3, _, _⟩ := erl_facts h2
    refine ⟨h1, fun m hm => ?_⟩
    obtain ⟨g1, k, g2, g3⟩ := h3 m hm
    have g4 := (rch_spec g2).1
    have g5 := vf.cvle (s := k) (t := (y.1 + 1 - (R.getD m g0).1).toNat) (by omega)
    omega
end Go.Proofs.Ytabbnnfobjifiaa
end
section
namespace Go.Proofs.Ytabbnnfobjifiaa
open Go.Sx Go.Pk Go.Cv
set_option maxRecDepth 4000
set_option maxHeartbeats 2000000
theorem pks_app (l : List Pk) (x : Pk) : pks (l ++ [x]) = pks l ++ [pkw x] := by simp [pks]
end Go.Proofs.Ytabbnnfobjifiaa
end
