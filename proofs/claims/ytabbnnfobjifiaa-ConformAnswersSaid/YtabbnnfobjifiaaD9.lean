/-
  A text of the proofs of this seat: lemmas that the statements' proofs use; it states nothing of the program by itself beyond the contracts that its theorems bear. Conditions: those that stand in each theorem. Its short name: D9.
-/
import Derived.Test.YtabbnnfobjifiaaD7
import Derived.Test.YtabbnnfobjifiaaC16
set_option linter.unusedVariables false
set_option linter.unusedSimpArgs false
namespace Go.Proofs.Ytabbnnfobjifiaa
open Go.Sx Go.Pk Go.Cv Go.St
set_option maxRecDepth 8000
set_option maxHeartbeats 2000000
--APPX pks_len, Go.Cv.vals_len
theorem sumA_lim (c : Int) : ∀ {l : List Pk}, (∀ x ∈ l, x.s ≤ c) → sumA (fun x : Pk => x.s) l ≤ c * l.length
  | [], _ => by simp [sumA]
  | x :: l, h => by
    have h1 := h x (by simp)
    have h2 := sumA_lim c (l := l) fun y hy => h y (List.mem_cons_of_mem _ hy)
    simp only [sumA, List.length_cons]; push_cast; rw [Int.mul_add, Int.mul_one]; omega
theorem aP_D9 {A B K : Prop} (k : K) (a : A := by (simp only [zA, zT, zD, zC, zN, ints_len, zR, pks_len, Go.Cv.vals_len]; omega)) (b : B := by (simp only [zA, zT, zD, zC, zN, ints_len, zR, pks_len, Go.Cv.vals_len]; omega)) : (A ∧ B) ∧ K := ⟨⟨a, b⟩, k⟩
theorem cPoliceG_ok (p : List Pk) (hp : p.length ≤ 1000000) (flow : Int) (vs : List Int) (q i : Int) (hv : vs.length ≤ 1000000) :
    Ctr Try.prog 18 [.psl 3 (pks p), i64 flow, crv vs q i] [] (fun r o => ∃ x : List Pk × List Int × Int, PolG p flow vs q i x ∧ o = [] ∧ r = .tup [.psl 3 (pks x.1), .psl 1 (ints x.2.1), i64 x.2.2]) := by
  by_cases hall : Vld p ∧ -1 ≤ flow ∧ ValidP vs q i
  · obtain ⟨hV, hf, hq⟩ := hall
    obtain ⟨q', rfl, vf⟩ := id hq.vf
    have hg : PolG p flow vs q' i ((pol (vs, q', i) flow p p.length).2.1, (pol (vs, q', i) flow p p.length).2.2, 0) := ⟨.ok (vld_zero.2 hV) hf hq rfl, fun h => absurd rfl h, fun _ q2 h => by
      have : q2 = q' := by omega
      subst this
      exact ⟨rfl, rfl⟩⟩
    have hl := hV.l
    have hsum := sumA_lim 1500 (l := p) fun x hx => by have := hV.mem x hx; unfold bad at this; omega
    exact (PoliceB_ok p hV (by omega) flow hf (vs, q', i) vf (by omega)).mono fun r o ⟨h2, h3⟩ => ⟨_, hg, h2, h3⟩
  · refine Ctr.impE ?_
    refine fn_intro (E := env 0) tys_ok rfl rfl rfl Try.func18 (by kernel_rfl) rfl (by kernel_rfl) ?_
    have cB := checkG_ok p hp flow vs q i hv
    (repeat' (conv => whnf); first | refine AsgOb.nil ?_ | (refine aC (fun _ => ?_) (fun _ => ?_) <;> try (exfalso; omega)) | refine aS ?_ | refine aG ?_ | refine aD ?_ | refine aH ?_ | refine aP_D9 ?_ | refine aI ?_ | refine aJ ?_ | fail); all_goals try (conv => whnf)
    refine CallOb.mk [] cB rfl (ImpL.refl _) rfl rfl ?_
    rintro _ _ ⟨e, he, rfl, rfl⟩
    have h0 : e ≠ 0 := fun h => by subst h; exact hall (chk_ok he)
    (repeat' (conv => whnf); first | refine AsgOb.nil ?_ | (refine aC (fun _ => ?_) (fun _ => ?_) <;> try (exfalso; omega)) | refine aS ?_ | refine aG ?_ | refine aD ?_ | refine aH ?_ | refine aP_D9 ?_ | refine aI ?_ | refine aJ ?_ | fail); all_goals try (conv => whnf)
    exact ⟨([], [], e), ⟨he, fun _ => ⟨rfl, rfl⟩, fun h => absurd h h0⟩, rfl, Imp.tup ⟨Imp.nil 3, Imp.nil 1, Imp.refl _, trivial⟩⟩
end Go.Proofs.Ytabbnnfobjifiaa
