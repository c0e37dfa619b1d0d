/-
  A text of the proofs of this seat: lemmas that the statements' proofs use; it states nothing of the program by itself beyond the contracts that its theorems bear. Conditions: those that stand in each theorem. Its short name: C18 D11.
-/
import Derived.Test.YtabbnnfobjifiaaC17
import Derived.Test.YtabbnnfobjifiaaCy
set_option linter.unusedVariables false
set_option linter.unusedSimpArgs false
section
namespace Go.Proofs.Ytabbnnfobjifiaa
open Go.Sx Go.Pk Go.Cv Go.St
set_option maxRecDepth 8000
set_option maxHeartbeats 2000000
--APPX pks_len, Go.Cv.vals_len
theorem aP_C18 {A B K : Prop} (k : K) (a : A := by (simp only [zA, zT, zD, zC, zN, ints_len, zR, pks_len, Go.Cv.vals_len]; omega)) (b : B := by (simp only [zA, zT, zD, zC, zN, ints_len, zR, pks_len, Go.Cv.vals_len]; omega)) : (A ∧ B) ∧ K := ⟨⟨a, b⟩, k⟩
theorem GreedyB_ok (flow : Int) (hfl : 0 ≤ flow ∧ flow < 60) (f : C3) (vf : VC f) (size ticks : Int) (hs : 1 ≤ size ∧ size * 61 ≤ 100000 ∧ size ≤ 1500) (ht : 0 ≤ ticks ∧ ticks ≤ 2000) :
    Ctr Try.prog 20 [i64 flow, crv f.1 f.2.1 f.2.2, i64 size, i64 ticks] [] (fun r o => o = [] ∧ r = .tup [.psl 3 (pks (grO flow size (grN f size ticks 60))), i64 0]) := by
  refine Ctr.imp ?_
  refine fn_intro (E := env 0) tys_ok rfl rfl rfl Try.func20 (by kernel_rfl) rfl (by kernel_rfl) ?_
  have cB := begin_ok f vf
  have hV : ValidP f.1 f.2.1 f.2.2 := vf.valid
  (repeat' (conv => whnf); first | (refine aC (fun _ => ?_) (fun _ => ?_) <;> try (exfalso; omega)) | refine aS ?_ | refine aG ?_ | refine aD ?_ | refine aP_C18 ?_ | refine aI ?_ | refine aJ ?_ | (refine Gh.mk [] ?_; (conv => whnf); refine aK [] (CValid_ok f.1 f.2.1 f.2.2 (by have := vf.n2; omega)) ?_) | (refine Gh.mk [] ?_; (conv => whnf); refine aK [] cB ?_) | fail); all_goals try (conv => whnf)
  · exact absurd hV (by assumption)
  refine .mk [.nb 2 4 1, .nb 2 5 1] ?_
  refine LoopOb.mk (Y := List (Int × Int)) (st := fun R => ⟨[(11, .vec 1), (10, .ptr 0 0), (0, i64 flow), (2, i64 size), (3, i64 ticks)], [runB f (.vec 2) (.vec 3), .vec 3 (pks (grO flow size R)), .vec 1 (ints (tms R)), .vec 1 (ints (szs R))]⟩)
    (inv := fun R => (R = grN f size ticks R.length ∧ R.length ≤ 60) ∧ (∀ z ∈ R, 0 ≤ z.1 ∧ z.1 ≤ 2000 ∧ 0 ≤ z.2) ∧ sumA (fun z : Int × Int => z.2) R = size * R.length) (fun R => 60 - R.length) [] [2, 3, 4, 5]
    ⟨⟨rfl, by simp⟩, by simp, by simp [sumA]⟩ (by (exact aL)) ?_
  rintro R ⟨⟨hR, hl⟩, hb, hsum⟩
  have hol : (pks (grO flow size R)).length = R.length := by simp
  have hsl : size * R.length ≤ size * 60 := Int.mul_le_mul_of_nonneg_left (by omega) (by omega)
  obtain ⟨s1, s2, s3⟩ := grN_step (i := R.length) hR
  have hfin : grN f size ticks (R.length + 1) = grN f size ticks R.length → grN f size ticks 60 = R := fun h => by rw [grN_stop h 60 hl, ← hR]
  have cE := earliestB_ok f vf R 0 size (by omega) (by omega) ⟨hl, hb, by omega⟩
  (repeat' (conv => whnf); first | refine aS ?_ | refine aG ?_ | refine aD ?_ | refine aH ?_ | refine aP_C18 ?_ | refine aI ?_ | refine aJ ?_ | fail); all_goals try (conv => whnf)
  refine CondOb.mk (fun hlt => ?_) (fun hlt => ?_)
  · (repeat' (conv => whnf); first | (refine aC (fun _ => ?_) (fun _ => ?_) <;> try (exfalso; omega)) | refine aS ?_ | refine aG ?_ | refine aD ?_ | refine aP_C18 ?_ | refine aI ?_ | refine aJ ?_ | fail); all_goals try (conv => whnf)
    refine .mk [] ?_
    refine CallOb.mk [0, 2, 3] cE rfl (ImpL.refl _) rfl rfl ?_
    rintro _ _ ⟨y, hy, rfl, rfl⟩
    rcases hy with ⟨u, hu, hub, rfl⟩ | ⟨hu, rfl⟩
    · dsimp only
      have e2 := s2 u hu
      have e3 := s3 u hu
      have cA := add_ok f (tms R) (szs R) u size (by simp; omega) (by simp; omega)
      obtain ⟨c1, c2⟩ := tms_cons R u size
      rw [← c1, ← c2] at cA
      have hgc := grO_cons flow size u R
      (repeat' (conv => whnf); first | refine And.intro (by rw [hol]; simp only [List.length_cons, List.length_nil]; omega) ?_ | refine LitOb.ful ?_ | (refine aC (fun _ => ?_) (fun _ => ?_) <;> try (exfalso; omega)) | refine aS ?_ | refine aG ?_ | refine aD ?_ | refine aP_C18 ?_ | refine aI ?_ | refine aJ ?_ | (refine Gh.mk [] ?_; (conv => whnf); refine aK [0, 2, 3] cA ?_) | fail); all_goals try (conv => whnf)
      · have e := hfin (e2 (by assumption))
        rw [e]
        refine .mk [.fz 1] ?_
        (repeat' (conv => whnf); first | (refine aC (fun _ => ?_) (fun _ => ?_) <;> try (exfalso; omega)) | refine aS ?_ | refine aG ?_ | refine aD ?_ | refine aH ?_ | refine aP_C18 ?_ | refine aI ?_ | refine aJ ?_ | fail); all_goals try (conv => whnf)
        exact ⟨rfl, Imp.refl _⟩
      · have e := e3 (by assumption)
        refine .mk [] ⟨(u, size) :: R, [0, 4, 5, 6], ⟨⟨?_, ?_⟩, ?_, ?_⟩, ?_, ?_⟩
        · rw [List.length_cons]; exact e.symm
        · rw [List.length_cons]; omega
        · intro z hz
          rcases List.mem_cons.1 hz with rfl | hz
          · dsimp only; omega
          · exact hb z hz
        · simp only [sumA, hsum, List.length_cons]; push_cast; rw [Int.mul_add, Int.mul_one]; omega
        · rw [List.length_cons]; omega
        · rw [hgc]; (exact aL)
    · dsimp only
      have e := hfin (s1 hu)
      rw [e]
      (repeat' (conv => whnf); first | (refine aC (fun _ => ?_) (fun _ => ?_) <;> try (exfalso; omega)) | refine aS ?_ | refine aG ?_ | refine aD ?_ | refine aP_C18 ?_ | refine aI ?_ | refine aJ ?_ | fail); all_goals try (conv => whnf)
      refine .mk [.fz 1] ?_
      (repeat' (conv => whnf); first | (refine aC (fun _ => ?_) (fun _ => ?_) <;> try (exfalso; omega)) | refine aS ?_ | refine aG ?_ | refine aD ?_ | refine aH ?_ | refine aP_C18 ?_ | refine aI ?_ | refine aJ ?_ | fail); all_goals try (conv => whnf)
      exact ⟨rfl, Imp.refl _⟩
  · have e : R.length = 60 := by omega
    rw [e] at hR
    rw [← hR]
    (repeat' (conv => whnf); first | (refine aC (fun _ => ?_) (fun _ => ?_) <;> try (exfalso; omega)) | refine aS ?_ | refine aG ?_ | refine aD ?_ | refine aP_C18 ?_ | refine aI ?_ | refine aJ ?_ | fail); all_goals try (conv => whnf)
    refine .mk [.fz 1] ?_
    (repeat' (conv => whnf); first | (refine aC (fun _ => ?_) (fun _ => ?_) <;> try (exfalso; omega)) | refine aS ?_ | refine aG ?_ | refine aD ?_ | refine aH ?_ | refine aP_C18 ?_ | refine aI ?_ | refine aJ ?_ | fail); all_goals try (conv => whnf)
    exact ⟨rfl, Imp.refl _⟩
end Go.Proofs.Ytabbnnfobjifiaa
end
section
namespace Go.Proofs.Ytabbnnfobjifiaa
open Go.Sx Go.Pk Go.Cv Go.St
set_option maxRecDepth 8000
set_option maxHeartbeats 2000000
--APPX pks_len, Go.Cv.vals_len
/- the numbers that Greedy takes -/
def GrA (flow size ticks : Int) : Prop := (0 ≤ flow ∧ flow < 60) ∧ (1 ≤ size ∧ size ≤ 1500) ∧ 0 ≤ ticks ∧ ticks ≤ 2000
/- what Greedy answers, whatever the arguments -/
def GreG (flow : Int) (vs : List Int) (q i size ticks : Int) (x : List Pk × Int) : Prop :=
  (¬ValidP vs q i ∧ x = ([], 1)) ∨ (ValidP vs q i ∧ ¬GrA flow size ticks ∧ x = ([], 2)) ∨
  (ValidP vs q i ∧ GrA flow size ticks ∧ ∀ q' : Nat, q = q' → x = (grO flow size (grN (vs, q', i) size ticks 60), 0))
theorem GreG.uniq {flow : Int} {vs : List Int} {q i size ticks : Int} {x y : List Pk × Int} (hx : GreG flow vs q i size ticks x) (hy : GreG flow vs q i size ticks y) : x = y := by
  rcases hx with ⟨h1, rfl⟩ | ⟨h1, h2, rfl⟩ | ⟨h1, h2, h3⟩ <;> rcases hy with ⟨k1, rfl⟩ | ⟨k1, k2, rfl⟩ | ⟨k1, k2, k3⟩ <;> first | rfl | contradiction | skip
  obtain ⟨q', hq, _⟩ := h1.vf
  rw [h3 q' hq, k3 q' hq]
theorem aP_D11 {A B K : Prop} (k : K) (a : A := by (simp only [zA, zT, zD, zC, zN, ints_len, zR, pks_len, Go.Cv.vals_len]; omega)) (b : B := by (simp only [zA, zT, zD, zC, zN, ints_len, zR, pks_len, Go.Cv.vals_len]; omega)) : (A ∧ B) ∧ K := ⟨⟨a, b⟩, k⟩
theorem cGreedyG_ok (flow : Int) (vs : List Int) (q i size ticks : Int) (hv : vs.length ≤ 1000000) :
    Ctr Try.prog 20 [i64 flow, crv vs q i, i64 size, i64 ticks] [] (fun r o => ∃ x : List Pk × Int, GreG flow vs q i size ticks x ∧ o = [] ∧ r = .tup [.psl 3 (pks x.1), i64 x.2]) := by
  by_cases hall : ValidP vs q i ∧ GrA flow size ticks
  · obtain ⟨hq, ha⟩ := hall
    obtain ⟨q', rfl, vf⟩ := id hq.vf
    obtain ⟨h1, h2, h3, h4⟩ := id ha
    exact (GreedyB_ok flow h1 (vs, q', i) vf size ticks ⟨h2.1, by omega, h2.2⟩ ⟨h3, h4⟩).mono fun r o ⟨h5, h6⟩ => ⟨_, .inr (.inr ⟨hq, ha, fun q2 h => by
      have : q2 = q' := by omega
      subst this
      rfl⟩), h5, h6⟩
  · refine Ctr.impE ?_
    refine fn_intro (E := env 0) tys_ok rfl rfl rfl Try.func20 (by kernel_rfl) rfl (by kernel_rfl) ?_
    unfold GrA at hall
    have hw1 : ¬ValidP vs q i → GreG flow vs q i size ticks ([], 1) := fun h => .inl ⟨h, rfl⟩
    have hw2 : ValidP vs q i → GreG flow vs q i size ticks ([], 2) := fun h => .inr (.inl ⟨h, fun h2 => hall ⟨h, h2⟩, rfl⟩)
    have cV := CValid_ok vs q i (by omega)
    generalize ValidP vs q i = PV at *
    (repeat' (conv => whnf); first | refine AsgOb.nil ?_ | (refine aC (fun _ => ?_) (fun _ => ?_) <;> try (exfalso; omega)) | refine aS ?_ | refine aG ?_ | refine aD ?_ | refine aH ?_ | refine aP_D11 ?_ | refine aI ?_ | refine aJ ?_ | (refine aK [] cV ?_) | fail); all_goals try (conv => whnf)
    all_goals first
      | exact ⟨([], 1), hw1 (by assumption), rfl, Imp.tup ⟨Imp.nil 3, Imp.refl _, trivial⟩⟩
      | exact ⟨([], 2), hw2 (Classical.not_not.1 (by assumption)), rfl, Imp.tup ⟨Imp.nil 3, Imp.refl _, trivial⟩⟩
      | exact absurd ⟨Classical.not_not.1 (by assumption), by omega⟩ hall
      | trace_state
end Go.Proofs.Ytabbnnfobjifiaa
end
