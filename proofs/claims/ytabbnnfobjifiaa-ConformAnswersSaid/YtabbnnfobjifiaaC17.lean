/-
  A text of the proofs of this seat: lemmas that the statements' proofs use; it states nothing of the program by itself beyond the contracts that its theorems bear. Conditions: those that stand in each theorem. Its short name: C17 D10 C6.
-/
import Derived.Test.YtabbnnfobjifiaaT6
import Derived.Test.YtabbnnfobjifiaaCy
import Derived.Test.YtabbnnfobjifiaaT14
import Derived.Test.YtabbnnfobjifiaaD9
import Derived.Test.YtabbnnfobjifiaaC3
import Derived.Test.YtabbnnfobjifiaaD1
import Derived.Test.YtabbnnfobjifiaaPl
set_option linter.unusedVariables false
set_option linter.unusedSimpArgs false
section
namespace Go.Proofs.Ytabbnnfobjifiaa
open Go.Sx Go.Pk Go.Cv Go.St
set_option maxRecDepth 8000
set_option maxHeartbeats 2000000
--APPX pks_len, Go.Cv.vals_len
theorem aP_C17 {A B K : Prop} (k : K) (a : A := by (simp only [zA, zT, zD, zC, zN, ints_len, zR, pks_len, Go.Cv.vals_len]; omega)) (b : B := by (simp only [zA, zT, zD, zC, zN, ints_len, zR, pks_len, Go.Cv.vals_len]; omega)) : (A ∧ B) ∧ K := ⟨⟨a, b⟩, k⟩
theorem ShapeB_ok (p : List Pk) (hv : Vld p) (hp : p.length ≤ 60) (flow : Int) (hf : -1 ≤ flow) (f : C3) (vf : VC f) (hs : sumA (fun x : Pk => x.s) p ≤ 90000) :
    Ctr Try.prog 13 [.psl 3 (pks p), i64 flow, crv f.1 f.2.1 f.2.2] [] (fun r o => ∃ x : List Pk × Int, ((∃ R q, shN f flow p p.length = some (R, q) ∧ x = (srt ptm q, 0)) ∨ (shN f flow p p.length = none ∧ x = ([], 5))) ∧ o = [] ∧ r = .tup [.psl 3 (pks x.1), i64 x.2]) := by
  refine Ctr.impE ?_
  refine fn_intro (E := env 0) tys_ok rfl rfl rfl Try.func13 (by kernel_rfl) rfl (by kernel_rfl) ?_
  have cC := cCheck_ok p hv flow hf f vf
  have cB := begin_ok f vf
  have cK := pClone_ok p (by omega)
  (repeat' (conv => whnf); first | refine AsgOb.nil ?_ | (refine aC (fun _ => ?_) (fun _ => ?_) <;> try (exfalso; omega)) | refine aS ?_ | refine aG ?_ | refine aD ?_ | refine aP_C17 ?_ | refine aI ?_ | refine aJ ?_ | (refine Gh.mk [] ?_; (conv => whnf); refine aK [] cC ?_) | (refine Gh.mk [] ?_; (conv => whnf); refine aK [] cB ?_) | (refine Gh.mk [] ?_; (conv => whnf); refine aK [] cK ?_) | fail); all_goals try (conv => whnf)
  refine .mk [.nb 1 4 1, .nb 1 5 1] ?_
  have hsz : ∀ x ∈ p, 0 ≤ x.s := fun x hx => (hv.sml x hx).1
  refine LoopOb.mk (Y := List (Int × Int) × List Pk) (st := fun y => ⟨[(28, i64 y.2.length), (27, i64 (pks p).length), (26, .psl 3 (pks p)), (10, .vec 1), (9, .ptr 0 0), (1, i64 flow)], [runB f (.vec 2) (.vec 3), .vec 3 (pks (shO p y.2)), .vec 1 (ints (tms y.1)), .vec 1 (ints (szs y.1))]⟩)
    (inv := fun y => (y.2.length ≤ p.length ∧ shN f flow p y.2.length = some y) ∧ (y.1.length ≤ y.2.length ∧ ∀ z ∈ y.1, 0 ≤ z.1 ∧ z.1 ≤ 2000 ∧ 0 ≤ z.2) ∧ sumA (fun z : Int × Int => z.2) y.1 ≤ sumA (fun x : Pk => x.s) (p.take y.2.length)) (fun y => p.length - y.2.length) ([], []) [1, 2, 3, 4]
    ⟨⟨by simp, rfl⟩, ⟨by simp, by simp⟩, by simp [sumA]⟩ (by (exact aL)) ?_
  rintro ⟨R, o⟩ ⟨⟨hi, hN⟩, ⟨hR1, hR2⟩, hR3⟩
  dsimp only at hi hN hR1 hR2 hR3 ⊢
  have hpl := pks_len p
  have hol := shO_len hi
  have hoo := pks_len (shO p o)
  (repeat' (conv => whnf); first | refine aS ?_ | refine aG ?_ | refine aD ?_ | refine aH ?_ | refine aP_C17 ?_ | refine aI ?_ | refine aJ ?_ | fail); all_goals try (conv => whnf)
  refine CondOb.mk (fun hlt => ?_) (fun hlt => ?_)
  · have hil : o.length < p.length := by omega
    have hg := pks_get hil
    obtain ⟨s1, s2, s3, s4⟩ := shN_step hN
    have hkeep := shO_keep hil
    have hget : (pks (shO p o))[o.length]? = some (pkw (p.getD o.length pk0)) := by
      show ((shO p o).map pkw)[o.length]? = _
      rw [List.getElem?_map, shO_get hil]; rfl
    have hset : ∀ y : Pk, (pks (shO p o)).set o.length (pkw y) = pks (shO p (o ++ [y])) := fun y => by
      rw [← shO_set hil y]; simp [pks, List.map_set]
    have hb := hv.g _ hil
    unfold bad at hb
    have hsum := sumA_take (fun x : Pk => x.s) hil
    have hsum2 := sumA_take_le (fun x : Pk => x.s) hsz (o.length + 1)
    have hx : p.getD o.length pk0 = p[o.length] := by simp [List.getD_eq_getElem?_getD, hil]
    rw [← hx] at hsum
    clear hx
    have hnone : shN f flow p (o.length + 1) = none → shN f flow p p.length = none := fun h => shN_none h _ hil
    have cM := mine_ok (p.getD o.length pk0) flow
    generalize p.getD o.length pk0 = x at *
    have cE := earliestB_ok f vf R x.t x.s (by omega) (by omega) ⟨by omega, hR2, by omega⟩
    (repeat' (conv => whnf); first | refine ⟨o.length, _, rfl, hg, ?_⟩ | (refine aC (fun _ => ?_) (fun _ => ?_) <;> try (exfalso; omega)) | refine aS ?_ | refine aG ?_ | refine aD ?_ | refine aP_C17 ?_ | refine aI ?_ | refine aJ ?_ | (refine Gh.mk [] ?_; (conv => whnf); refine aK [] cM ?_) | fail); all_goals try (conv => whnf)
    · have e := s1 (by assumption)
      have hl : (o ++ [x]).length = o.length + 1 := by simp
      refine .mk [] ⟨(R, o ++ [x]), [0, 1, 2, 3], ⟨⟨?_, ?_⟩, ⟨?_, hR2⟩, ?_⟩, ?_, ?_⟩
      · dsimp only; omega
      · dsimp only; rw [hl]; exact e
      · dsimp only; omega
      · dsimp only; rw [hl]; omega
      · dsimp only; omega
      · dsimp only; rw [hl, hkeep]; (exact aL)
    · have hm : mine flow x := Classical.not_not.1 (by assumption)
      refine .mk [] ?_
      refine CallOb.mk [0, 2, 3] cE rfl (ImpL.refl _) rfl rfl ?_
      rintro _ _ ⟨y, hy, rfl, rfl⟩
      rcases hy with ⟨u, hu, hub, rfl⟩ | ⟨hu, rfl⟩
      · dsimp only
        have e3 := s3 u hm hu
        have e4 := s4 u hm hu
        have cA := add_ok f (tms R) (szs R) u x.s (by simp; omega) (by simp; omega)
        obtain ⟨c1, c2⟩ := tms_cons R u x.s
        rw [← c1, ← c2] at cA
        have hst := hset ⟨x.f, u, x.s⟩
        have hgl : (pks (shO p o)).length = p.length := by omega
        (repeat' (conv => whnf); first | refine ⟨_, hget, ?_⟩ | refine ⟨o.length, by omega, by omega, ?_⟩ | refine AsgOb.nil ?_ | (refine aC (fun _ => ?_) (fun _ => ?_) <;> try (exfalso; omega)) | refine aS ?_ | refine aG ?_ | refine aD ?_ | refine aP_C17 ?_ | refine aI ?_ | refine aJ ?_ | (refine Gh.mk [] ?_; (conv => whnf); refine aK [0, 2, 3] cA ?_) | fail); all_goals try (conv => whnf)
        · refine .mk [] ?_
          (repeat' (conv => whnf); first | (refine aC (fun _ => ?_) (fun _ => ?_) <;> try (exfalso; omega)) | refine aS ?_ | refine aG ?_ | refine aD ?_ | refine aH ?_ | refine aP_C17 ?_ | refine aI ?_ | refine aJ ?_ | fail); all_goals try (conv => whnf)
          exact ⟨([], 5), .inr ⟨hnone (e3 (by assumption)), rfl⟩, rfl, Imp.tup ⟨Imp.nil 3, Imp.refl _, trivial⟩⟩
        · have e := e4 (by assumption)
          have hl : (o ++ [(⟨x.f, u, x.s⟩ : Pk)]).length = o.length + 1 := by simp
          refine .mk [] ⟨((u, x.s) :: R, o ++ [⟨x.f, u, x.s⟩]), [0, 1, 5, 6], ⟨⟨?_, ?_⟩, ⟨?_, ?_⟩, ?_⟩, ?_, ?_⟩
          · dsimp only; omega
          · dsimp only; rw [hl]; exact e
          · dsimp only; rw [hl, List.length_cons]; omega
          · intro z hz
            rcases List.mem_cons.1 hz with rfl | hz
            · dsimp only; omega
            · exact hR2 z hz
          · dsimp only; rw [hl]; simp only [sumA]; omega
          · dsimp only; omega
          · dsimp only; rw [hl, ← hst]; (exact aL)
      · dsimp only
        have e2 := s2 hm hu
        (repeat' (conv => whnf); first | refine AsgOb.nil ?_ | (refine aC (fun _ => ?_) (fun _ => ?_) <;> try (exfalso; omega)) | refine aS ?_ | refine aG ?_ | refine aD ?_ | refine aH ?_ | refine aP_C17 ?_ | refine aI ?_ | refine aJ ?_ | fail); all_goals try (conv => whnf)
        exact ⟨([], 5), .inr ⟨hnone e2, rfl⟩, rfl, Imp.tup ⟨Imp.nil 3, Imp.refl _, trivial⟩⟩
  · have e : o.length = p.length := by omega
    rw [shO_full e]
    rw [e] at hN
    have cO := OrderN_ok o (by omega)
    (repeat' (conv => whnf); first | (refine aC (fun _ => ?_) (fun _ => ?_) <;> try (exfalso; omega)) | refine aS ?_ | refine aG ?_ | refine aD ?_ | refine aP_C17 ?_ | refine aI ?_ | refine aJ ?_ | fail); all_goals try (conv => whnf)
    refine .mk [.fz 1] ?_
    refine aK [] cO ?_
    (repeat' (conv => whnf); first | (refine aC (fun _ => ?_) (fun _ => ?_) <;> try (exfalso; omega)) | refine aS ?_ | refine aG ?_ | refine aD ?_ | refine aH ?_ | refine aP_C17 ?_ | refine aI ?_ | refine aJ ?_ | fail); all_goals try (conv => whnf)
    exact ⟨(srt ptm o, 0), .inl ⟨R, o, hN, rfl⟩, rfl, Imp.refl _⟩
end Go.Proofs.Ytabbnnfobjifiaa
end
section
namespace Go.Proofs.Ytabbnnfobjifiaa
open Go.Sx Go.Pk Go.Cv Go.St
set_option maxRecDepth 8000
set_option maxHeartbeats 2000000
--APPX pks_len, Go.Cv.vals_len
/- what Shape answers, whatever the arguments -/
def ShaG (p : List Pk) (flow : Int) (vs : List Int) (q i : Int) (x : List Pk × Int) : Prop :=
  ∃ e, ChkR p flow (ValidP vs q i) e ∧ (e ≠ 0 → x = ([], e)) ∧ (e = 0 → ∀ q' : Nat, q = q' → (∃ R o, shN (vs, q', i) flow p p.length = some (R, o) ∧ x = (srt ptm o, 0)) ∨ (shN (vs, q', i) flow p p.length = none ∧ x = ([], 5)))
theorem aP_D10 {A B K : Prop} (k : K) (a : A := by (simp only [zA, zT, zD, zC, zN, ints_len, zR, pks_len, Go.Cv.vals_len]; omega)) (b : B := by (simp only [zA, zT, zD, zC, zN, ints_len, zR, pks_len, Go.Cv.vals_len]; omega)) : (A ∧ B) ∧ K := ⟨⟨a, b⟩, k⟩
theorem cShapeG_ok (p : List Pk) (hp : p.length ≤ 1000000) (flow : Int) (vs : List Int) (q i : Int) (hv : vs.length ≤ 1000000) :
    Ctr Try.prog 13 [.psl 3 (pks p), i64 flow, crv vs q i] [] (fun r o => ∃ x : List Pk × Int, ShaG p flow vs q i x ∧ o = [] ∧ r = .tup [.psl 3 (pks x.1), i64 x.2]) := by
  by_cases hall : Vld p ∧ -1 ≤ flow ∧ ValidP vs q i
  · obtain ⟨hV, hf, hq⟩ := hall
    obtain ⟨q', rfl, vf⟩ := id hq.vf
    have hl := hV.l
    have hsum := sumA_lim 1500 (l := p) fun x hx => by have := hV.mem x hx; unfold bad at this; omega
    exact (ShapeB_ok p hV (by omega) flow hf (vs, q', i) vf (by omega)).mono fun r o ⟨x, h1, h2, h3⟩ => ⟨x, ⟨0, .ok (vld_zero.2 hV) hf hq rfl, fun h => absurd rfl h, fun _ q2 h => by
      have : q2 = q' := by omega
      subst this
      exact h1⟩, h2, h3⟩
  · refine Ctr.impE ?_
    refine fn_intro (E := env 0) tys_ok rfl rfl rfl Try.func13 (by kernel_rfl) rfl (by kernel_rfl) ?_
    have cB := checkG_ok p hp flow vs q i hv
    (repeat' (conv => whnf); first | refine AsgOb.nil ?_ | (refine aC (fun _ => ?_) (fun _ => ?_) <;> try (exfalso; omega)) | refine aS ?_ | refine aG ?_ | refine aD ?_ | refine aH ?_ | refine aP_D10 ?_ | refine aI ?_ | refine aJ ?_ | fail); all_goals try (conv => whnf)
    refine CallOb.mk [] cB rfl (ImpL.refl _) rfl rfl ?_
    rintro _ _ ⟨e, he, rfl, rfl⟩
    have h0 : e ≠ 0 := fun h => by subst h; exact hall (chk_ok he)
    (repeat' (conv => whnf); first | refine AsgOb.nil ?_ | (refine aC (fun _ => ?_) (fun _ => ?_) <;> try (exfalso; omega)) | refine aS ?_ | refine aG ?_ | refine aD ?_ | refine aH ?_ | refine aP_D10 ?_ | refine aI ?_ | refine aJ ?_ | fail); all_goals try (conv => whnf)
    exact ⟨([], e), ⟨e, he, fun _ => rfl, fun h => absurd h h0⟩, rfl, Imp.tup ⟨Imp.nil 3, Imp.refl _, trivial⟩⟩
end Go.Proofs.Ytabbnnfobjifiaa
end
section
namespace Go.Proofs.Ytabbnnfobjifiaa
open Go.Sx Go.Pk Go.Cv Go.St
set_option maxRecDepth 8000
set_option maxHeartbeats 2000000
--APPX pks_len, Go.Cv.vals_len
/- greedy packets as a trace -/
abbrev grO (flow size : Int) (R : List (Int × Int)) : List Pk := R.reverse.map fun y => ⟨flow, y.1, size⟩
theorem grO_cons (flow size t : Int) (R : List (Int × Int)) : pks (grO flow size ((t, size) :: R)) = pks (grO flow size R) ++ [[i64 flow, i64 t, i64 size]] := by simp [pks]
theorem grN_step {f : C3} {size ticks : Int} {i : Nat} {R : List (Int × Int)} (h : R = grN f size ticks i) :
    (ear f R 0 size = none → grN f size ticks (i + 1) = grN f size ticks i) ∧
    (∀ u, ear f R 0 size = some u → ticks < u → grN f size ticks (i + 1) = grN f size ticks i) ∧
    (∀ u, ear f R 0 size = some u → ¬ticks < u → grN f size ticks (i + 1) = (u, size) :: R) := by
  subst h
  refine ⟨fun h => ?_, fun u h h2 => ?_, fun u h h2 => ?_⟩
  · simp only [grN, h]
  · simp only [grN, h]; rw [if_pos h2]
  · simp only [grN, h]; rw [if_neg h2]
end Go.Proofs.Ytabbnnfobjifiaa
end
