/-
  A text of the proofs of this seat: lemmas that the statements' proofs use; it states nothing of the program by itself beyond the contracts that its theorems bear. Conditions: those that stand in each theorem. Its short name: C16.
-/
import Derived.Test.YtabbnnfobjifiaaT6
import Derived.Test.YtabbnnfobjifiaaCy
set_option linter.unusedVariables false
set_option linter.unusedSimpArgs false
namespace Go.Proofs.Ytabbnnfobjifiaa
open Go.Sx Go.Pk Go.Cv Go.St
set_option maxRecDepth 8000
set_option maxHeartbeats 2000000
--APPX pks_len, Go.Cv.vals_len
theorem aP_C16 {A B K : Prop} (k : K) (a : A := by (simp only [zA, zT, zD, zC, zN, ints_len, zR, pks_len, Go.Cv.vals_len]; omega)) (b : B := by (simp only [zA, zT, zD, zC, zN, ints_len, zR, pks_len, Go.Cv.vals_len]; omega)) : (A ∧ B) ∧ K := ⟨⟨a, b⟩, k⟩
theorem PoliceB_ok (p : List Pk) (hv : Vld p) (hp : p.length ≤ 60) (flow : Int) (hf : -1 ≤ flow) (f : C3) (vf : VC f) (hs : sumA (fun x : Pk => x.s) p ≤ 90000) :
    Ctr Try.prog 18 [.psl 3 (pks p), i64 flow, crv f.1 f.2.1 f.2.2] [] (fun r o => o = [] ∧ r = .tup [.psl 3 (pks (pol f flow p p.length).2.1), .psl 1 (ints (pol f flow p p.length).2.2), i64 0]) := by
  refine Ctr.imp ?_
  refine fn_intro (E := env 0) tys_ok rfl rfl rfl Try.func18 (by kernel_rfl) rfl (by kernel_rfl) ?_
  have cC := cCheck_ok p hv flow hf f vf
  have cB := begin_ok f vf
  have cK := pClone_ok p (by omega)
  (repeat' (conv => whnf); first | (refine aC (fun _ => ?_) (fun _ => ?_) <;> try (exfalso; omega)) | refine aS ?_ | refine aG ?_ | refine aD ?_ | refine aP_C16 ?_ | refine aI ?_ | refine aJ ?_ | (refine Gh.mk [] ?_; (conv => whnf); refine aK [] cC ?_) | (refine Gh.mk [] ?_; (conv => whnf); refine aK [] cB ?_) | (refine Gh.mk [] ?_; (conv => whnf); refine aK [] cK ?_) | fail); all_goals try (conv => whnf)
  refine .mk [.nb 3 4 1, .nb 3 5 1] ?_
  have hsz : ∀ x ∈ p, 0 ≤ x.s := fun x hx => (hv.sml x hx).1
  refine LoopOb.mk (Y := Nat × List (Int × Int) × List Pk × List Int) (st := fun y => ⟨[(30, i64 y.1), (29, i64 (pks p).length), (28, .psl 3 (pks p)), (12, .vec 2), (11, .vec 1), (10, .ptr 0 0), (1, i64 flow)], [runB f (.vec 3) (.vec 4), .vec 3 (pks (y.2.2.1 ++ p.drop y.1)), .vec 1 (ints y.2.2.2), .vec 1 (ints (tms y.2.1)), .vec 1 (ints (szs y.2.1))]⟩)
    (inv := fun y => (y.1 ≤ p.length ∧ pol f flow p y.1 = y.2) ∧ (y.2.1.length ≤ y.1 ∧ y.2.2.1.length + y.2.2.2.length = y.1 ∧ ∀ z ∈ y.2.1, 0 ≤ z.1 ∧ z.1 ≤ 2000 ∧ 0 ≤ z.2) ∧ sumA (fun z : Int × Int => z.2) y.2.1 ≤ sumA (fun x : Pk => x.s) (p.take y.1)) (fun y => p.length - y.1) (0, [], [], []) [3, 4, 5, 6, 7]
    ⟨⟨by simp, rfl⟩, ⟨by simp, by simp, by simp⟩, by simp [sumA]⟩ (by (exact aL)) ?_
  rintro ⟨i, R, q, g⟩ ⟨⟨hi, hN⟩, ⟨hR1, hq, hR2⟩, hR3⟩
  dsimp only at hi hN hR1 hR2 hR3 hq ⊢
  have hpl := pks_len p
  have hgl := ints_len g
  (repeat' (conv => whnf); first | refine aS ?_ | refine aG ?_ | refine aD ?_ | refine aH ?_ | refine aP_C16 ?_ | refine aI ?_ | refine aJ ?_ | fail); all_goals try (conv => whnf)
  refine CondOb.mk (fun hlt => ?_) (fun hlt => ?_)
  · have hil : i < p.length := by omega
    have hg := pks_get hil
    obtain ⟨s1, s2, s3⟩ := pol_step hN
    have hkeep := drop_snoc (q := q) hil
    have hdel := drop_erase (q := q) hil
    have cD := Delete_ok (q ++ p.drop i) q.length (q.length + 1) rfl (by rw [List.length_append, List.length_drop]; omega) (by rw [List.length_append, List.length_drop]; omega)
    rw [hdel] at cD
    have hb := hv.g _ hil
    unfold bad at hb
    have hsum := sumA_take (fun x : Pk => x.s) hil
    have hsum2 := sumA_take_le (fun x : Pk => x.s) hsz (i + 1)
    have hx : p.getD i pk0 = p[i] := by simp [List.getD_eq_getElem?_getD, hil]
    rw [← hx] at hsum
    clear hx
    have cM := mine_ok (p.getD i pk0) flow
    generalize p.getD i pk0 = x at *
    have cE := earliestB_ok f vf R x.t x.s (by omega) (by omega) ⟨by omega, hR2, by omega⟩
    (repeat' (conv => whnf); first | refine ⟨i, _, rfl, hg, ?_⟩ | (refine aC (fun _ => ?_) (fun _ => ?_) <;> try (exfalso; omega)) | refine aS ?_ | refine aG ?_ | refine aD ?_ | refine aP_C16 ?_ | refine aI ?_ | refine aJ ?_ | (refine Gh.mk [] ?_; (conv => whnf); refine aK [] cM ?_) | fail); all_goals try (conv => whnf)
    · have e := s1 (by assumption)
      refine .mk [] ⟨(i + 1, R, q ++ [x], g), [0, 1, 2, 3, 4], ⟨⟨?_, ?_⟩, ⟨?_, ?_, hR2⟩, ?_⟩, ?_, ?_⟩
      · dsimp only; omega
      · exact e
      · dsimp only; omega
      · dsimp only; rw [List.length_append, List.length_singleton]; omega
      · dsimp only; omega
      · dsimp only; omega
      · dsimp only; rw [← hkeep]; (exact aL)
    · have hm : mine flow x := Classical.not_not.1 (by assumption)
      refine .mk [] ?_
      refine CallOb.mk [0, 3, 4] cE rfl (ImpL.refl _) rfl rfl ?_
      rintro _ _ ⟨y, hy, rfl, rfl⟩
      have ea := ints_app13 g i
      have hge : x.t ≤ y.1 ∨ y.2 = false := by
        rcases hy with ⟨u, hu, hub, rfl⟩ | ⟨hu, rfl⟩
        · exact .inl (erl_facts (ear_facts hu).2).1
        · exact .inr rfl
      have hdrop : (y.2 = false ∨ x.t < y.1) → pol f flow p (i + 1) = (R, q, g ++ [(i : Int)]) := fun h => s3 hm fun h2 => by
        rcases hy with ⟨u, hu, hub, rfl⟩ | ⟨hu, rfl⟩
        · rw [hu] at h2; simp at h2; rcases h with h | h
          · cases h
          · dsimp only at h; omega
        · rw [hu] at h2; cases h2
      have hkp : y.2 = true → ¬x.t < y.1 → pol f flow p (i + 1) = (gp x :: R, q ++ [x], g) := fun h1 h2 => s2 hm (by
        rcases hy with ⟨u, hu, hub, rfl⟩ | ⟨hu, rfl⟩
        · rw [hu]; congr 1; dsimp only at h2 hge; rcases hge with h | h
          · omega
          · cases h
        · cases h1)
      have hyb : 0 ≤ y.1 ∧ y.1 ≤ 20000000 := by
        rcases hy with ⟨u, hu, hub, rfl⟩ | ⟨hu, rfl⟩
        · exact hub
        · exact ⟨Int.le_refl _, by dsimp only; omega⟩
      have cA := add_ok f (tms R) (szs R) x.t x.s (by simp; omega) (by simp; omega)
      obtain ⟨c1, c2⟩ := tms_cons R x.t x.s
      rw [← c1, ← c2] at cA
      obtain ⟨u, b⟩ := y
      dsimp only at hge hdrop hkp hyb ⊢
      clear hy hge
      cases b
      · have e := hdrop (.inl rfl)
        clear hdrop hkp cA
        (repeat' (conv => whnf); first | refine LitOb.ful ?_ | (refine aC (fun _ => ?_) (fun _ => ?_) <;> try (exfalso; omega)) | refine aS ?_ | refine aG ?_ | refine aD ?_ | refine aP_C16 ?_ | refine aI ?_ | refine aJ ?_ | fail); all_goals try (conv => whnf)
        · refine .mk [] ?_
          refine CallOb.mk [1] cD rfl ⟨Imp.refl _, Imp.num (by omega), Imp.num (by omega), trivial⟩ rfl rfl ?_
          rintro _ _ ⟨rfl, rfl⟩
          (repeat' (conv => whnf); first | (refine aC (fun _ => ?_) (fun _ => ?_) <;> try (exfalso; omega)) | refine aS ?_ | refine aG ?_ | refine aD ?_ | refine aP_C16 ?_ | refine aI ?_ | refine aJ ?_ | fail); all_goals try (conv => whnf)
          refine .mk [] ⟨(i + 1, R, q, g ++ [(i : Int)]), [0, 6, 8, 3, 4], ⟨⟨?_, ?_⟩, ⟨?_, ?_, hR2⟩, ?_⟩, ?_, ?_⟩
          · dsimp only; omega
          · exact e
          · dsimp only; omega
          · dsimp only; rw [List.length_append, List.length_singleton]; omega
          · dsimp only; omega
          · dsimp only; omega
          · dsimp only; rw [ea]; (exact aL)
      · (repeat' (conv => whnf); first | refine LitOb.ful ?_ | (refine aC (fun _ => ?_) (fun _ => ?_) <;> try (exfalso; omega)) | refine aS ?_ | refine aG ?_ | refine aD ?_ | refine aP_C16 ?_ | refine aI ?_ | refine aJ ?_ | (refine Gh.mk [] ?_; (conv => whnf); refine aK [0, 3, 4] cA ?_) | fail); all_goals try (conv => whnf)
        · have e := hdrop (.inr (by assumption))
          refine .mk [] ?_
          refine CallOb.mk [1] cD rfl ⟨Imp.refl _, Imp.num (by omega), Imp.num (by omega), trivial⟩ rfl rfl ?_
          rintro _ _ ⟨rfl, rfl⟩
          (repeat' (conv => whnf); first | refine LitOb.ful ?_ | (refine aC (fun _ => ?_) (fun _ => ?_) <;> try (exfalso; omega)) | refine aS ?_ | refine aG ?_ | refine aD ?_ | refine aP_C16 ?_ | refine aI ?_ | refine aJ ?_ | fail); all_goals try (conv => whnf)
          refine .mk [] ⟨(i + 1, R, q, g ++ [(i : Int)]), [0, 6, 7, 3, 4], ⟨⟨?_, ?_⟩, ⟨?_, ?_, hR2⟩, ?_⟩, ?_, ?_⟩
          · dsimp only; omega
          · exact e
          · dsimp only; omega
          · dsimp only; rw [List.length_append, List.length_singleton]; omega
          · dsimp only; omega
          · dsimp only; omega
          · dsimp only; rw [ea]; (exact aL)
        · have e := hkp rfl (by assumption)
          refine .mk [] ⟨(i + 1, gp x :: R, q ++ [x], g), [0, 1, 2, 6, 7], ⟨⟨?_, ?_⟩, ⟨?_, ?_, ?_⟩, ?_⟩, ?_, ?_⟩
          · dsimp only; omega
          · exact e
          · dsimp only; rw [List.length_cons]; omega
          · dsimp only; rw [List.length_append, List.length_singleton]; omega
          · intro z hz
            rcases List.mem_cons.1 hz with rfl | hz
            · dsimp only; omega
            · exact hR2 z hz
          · dsimp only; simp only [sumA]; omega
          · dsimp only; omega
          · dsimp only; rw [← hkeep]; (exact aL)
  · have e : i = p.length := by omega
    subst e
    rw [List.drop_length, List.append_nil, hN]
    (repeat' (conv => whnf); first | (refine aC (fun _ => ?_) (fun _ => ?_) <;> try (exfalso; omega)) | refine aS ?_ | refine aG ?_ | refine aD ?_ | refine aP_C16 ?_ | refine aI ?_ | refine aJ ?_ | fail); all_goals try (conv => whnf)
    refine .mk [.fz 1, .fz 2] ?_
    (repeat' (conv => whnf); first | (refine aC (fun _ => ?_) (fun _ => ?_) <;> try (exfalso; omega)) | refine aS ?_ | refine aG ?_ | refine aD ?_ | refine aH ?_ | refine aP_C16 ?_ | refine aI ?_ | refine aJ ?_ | fail); all_goals try (conv => whnf)
    exact ⟨rfl, Imp.refl _⟩
end Go.Proofs.Ytabbnnfobjifiaa
