/-
  A text of the proofs of this seat: lemmas that the statements' proofs use; it states nothing of the program by itself beyond the contracts that its theorems bear. Conditions: those that stand in each theorem. Its short name: Qj Qm.
-/
import Derived.Test.YtbdahmfjeklgbaaQh
import Derived.Test.YtbdahmfjeklgbaaKn2
set_option linter.unusedVariables false
set_option linter.unusedSimpArgs false
section
namespace Go.Proofs.Ytbdahmfjeklgbaa
open Go.Sx Go.Fq Go.Dt
set_option maxRecDepth 4000
set_option maxHeartbeats 2000000
/-! the examples of the chapter -/
def pA : Pr := ⟨[(1, 1), (1, 1)], [([(1, 1), (1, 1)], 2, (3, 1))]⟩
def pB : Pr := ⟨[(-1, 1)], []⟩
def pC : Pr := ⟨[(1, 1), (1, 1)], [([(1, 1), (0, 1)], 1, (1, 1)), ([(1, 1), (0, 1)], 2, (2, 1))]⟩
theorem rsA : RSol pA 1 3 := .opt (x := fun j => if j = 0 then 3 else 0) (y := fun _ => 1) ⟨by decide +kernel, by decide +kernel, by decide +kernel, by decide +kernel⟩ ⟨by decide +kernel, by decide +kernel⟩ (by decide +kernel) (by decide +kernel) (by decide +kernel)
theorem rsB : RSol pB 2 0 := .unb (x := fun _ => 0) (r := fun _ => 1) ⟨by decide +kernel, by decide +kernel, by decide +kernel, by decide +kernel⟩ ⟨by decide +kernel, by decide +kernel, by decide +kernel, by decide +kernel⟩ (by decide +kernel)
theorem rsC : RSol pC 3 0 := .inf (y := fun j => if j = 0 then -1 else 1) ⟨by decide +kernel, by decide +kernel⟩ (by decide +kernel) (by decide +kernel)
theorem vpA : VP pA := ⟨by decide, by decide, by decide, by decide +kernel, by decide +kernel⟩
theorem vpB : VP pB := ⟨by decide, by decide, by decide, by decide +kernel, by decide +kernel⟩
theorem vpC : VP pC := ⟨by decide, by decide, by decide, by decide +kernel, by decide +kernel⟩
theorem smA : Sml pA := ⟨by decide, by decide, by decide +kernel, by decide +kernel⟩
theorem smB : Sml pB := ⟨by decide, by decide, by decide +kernel, by decide +kernel⟩
theorem smC : Sml pC := ⟨by decide, by decide, by decide +kernel, by decide +kernel⟩
theorem SmlP.sml {p : Pr} (h : SmlP p) (h1 : p.c.length ≤ 4) (h2 : p.r.length ≤ 4) : Sml p := by
  refine ⟨h1, h2, fun f hf => ?_, fun w hw => ⟨fun f hf => ?_, (h.2 w hw).2.1, ?_⟩⟩
  · obtain ⟨_, a, b, c⟩ := h.1 f hf
    exact ⟨a, by omega⟩
  · obtain ⟨_, a, b, c⟩ := (h.2 w hw).1 f hf
    exact ⟨a, by omega⟩
  · have := (h.2 w hw).2.2; omega
/- a small programme is solved -/
theorem SlP.small {p : Pr} {s : Int × List F × F × List F × List F} {e : Int} (h : SlP p s e) (hv : VP p) (hs : Sml p) : e = 0 ∧ VF s.2.2.1 ∧ RSol p s.1 (val s.2.2.1) := by
  rcases h.yes hv with h | ⟨_, h⟩
  · exact h
  · exact absurd (fits_of hv hs) h
theorem SlP.is {p : Pr} {s : Int × List F × F × List F × List F} {e st : Int} {v : Rat} (h : SlP p s e) (hv : VP p) (hs : Sml p) (k : RSol p st v) : e = 0 ∧ s.1 = st ∧ VF s.2.2.1 ∧ val s.2.2.1 = v := by
  obtain ⟨h1, h2, h3⟩ := h.small hv hs
  obtain ⟨e1, e2⟩ := h3.uniq (VP.sn hv) k
  exact ⟨h1, e1, h2, e2⟩
theorem aP_Qj {A B K : Prop} (k : K) (a : A := by (simp only [zA, zT, zD, zC, zN, ints_len, zR, fr_len, rw_len]; omega)) (b : B := by (simp only [zA, zT, zD, zC, zN, ints_len, zR, fr_len, rw_len]; omega)) : (A ∧ B) ∧ K := ⟨⟨a, b⟩, k⟩
theorem lwhole_ok (n : Int) : Ctr Try.prog 14 [i64 n] [] (fun r o => o = [] ∧ r = .agg [i64 n, i64 1]) := by
  refine fn_intro (E := env 0) tys_ok rfl rfl rfl Try.func14 (by kernel_rfl) rfl (by kernel_rfl) ?_
  (repeat' (conv => whnf); first | refine aC (fun _ => ?_) (fun _ => ?_) | refine aS ?_ | refine aG ?_ | refine aD ?_ | refine aH ?_ | refine aP_Qj ?_ | refine aI ?_ | refine aJ ?_ | fail); all_goals try (conv => whnf)
  exact ⟨rfl, rfl⟩
theorem lrow_ok (a b s c : Int) : Ctr Try.prog 26 [i64 a, i64 b, i64 s, i64 c] [] (fun r o => o = [] ∧ r = .agg [fsl [(a, 1), (b, 1)], i64 s, i64 c, i64 1]) := by
  refine Ctr.imp ?_
  refine fn_intro (E := env 0) tys_ok rfl rfl rfl Try.func26 (by kernel_rfl) rfl (by kernel_rfl) ?_
  (repeat' (conv => whnf); first | refine LitOb.ful ?_ | refine aC (fun _ => ?_) (fun _ => ?_) | refine aS ?_ | refine aG ?_ | refine aD ?_ | refine aH ?_ | refine aP_Qj ?_ | refine aI ?_ | refine aJ ?_ | (refine aK [] (lwhole_ok a) ?_) | (refine aK [] (lwhole_ok b) ?_) | (refine aK [] (lwhole_ok c) ?_) | fail); all_goals try (conv => whnf)
  exact ⟨rfl, Imp.agg ⟨Imp.fulp rfl, Imp.refl _, Imp.refl _, Imp.refl _, trivial⟩⟩
theorem solve_is {p : Pr} (hv : VP p) (hs : Sml p) {st : Int} {v : Rat} (k : RSol p st v) :
    Ctr Try.prog 10 [prv p] [] (fun r o => ∃ x : List F × F × List F × List F, (VF x.2.1 ∧ val x.2.1 = v) ∧ o = [] ∧ r = .tup [solw (st, x), i64 0]) :=
  (Solve_ok' p (VP.pl hv)).mono fun r o ⟨⟨⟨st', x⟩, e⟩, h, e1, e2⟩ => by
    obtain ⟨h1, h2, h3, h4⟩ := h.is hv hs k
    dsimp only at h1 h2
    subst h1 h2
    exact ⟨x, ⟨h3, h4⟩, e1, e2⟩
theorem vf3 {v : F} (h : VF v) (k : val v = 3) : v = (3, 1) := by
  have h1 := h.num
  have h2 := h.den
  rw [k] at h1 h2
  have e1 : (3 : Rat).num = 3 := by decide +kernel
  have e2 : (3 : Rat).den = 1 := by decide +kernel
  rw [e1] at h1; rw [e2] at h2
  obtain ⟨a, b⟩ := v
  dsimp only at h1 h2
  rw [← h1, ← h2]; rfl
theorem lsane_ok : Ctr Try.prog 7 [] [] (fun r o => o = [] ∧ r = .bl true) := by
  refine Ctr.imp ?_
  refine fn_intro (E := env 0) tys_ok rfl rfl rfl Try.func7 (by kernel_rfl) rfl (by kernel_rfl) ?_
  have cA := solve_is vpA smA rsA
  have cB := solve_is vpB smB rsB
  have cC := solve_is vpC smC rsC
  (repeat' (conv => whnf); first | refine LitOb.ful ?_ | (refine aC (fun _ => ?_) (fun _ => ?_) <;> try (exfalso; omega)) | refine aS ?_ | refine aG ?_ | refine aD ?_ | refine aH ?_ | refine aP_Qj ?_ | refine aI ?_ | refine aJ ?_ | refine aW (.qs [0, 1, 2, 3, 4, 5, 6, 7, 8, 9, 10, 11, 12, 13, 14, 15, 16, 17] (.l 18 [17] (.qs [19, 20, 21, 22, 23, 24, 25, 26, 27, 28, 29, 30, 31] .nil) .no)) ?_ | (refine aK [] (lwhole_ok 1) ?_) | (refine aK [] (lwhole_ok 3) ?_) | (refine aK [] (lwhole_ok (-1)) ?_) | (refine aK [] (lrow_ok 1 1 2 3) ?_) | (refine aK [] (lrow_ok 1 0 1 1) ?_) | (refine aK [] (lrow_ok 1 0 2 2) ?_) | (refine CallOb.mk [] cA rfl ⟨Imp.agg ⟨Imp.fulp rfl, Imp.fulp rfl, trivial⟩, trivial⟩ rfl rfl ?_; rintro _ _ ⟨⟨X1, v1, Y1, Z1⟩, ⟨hv1, hw1⟩, rfl, rfl⟩) | (refine CallOb.mk [] cB rfl ⟨Imp.agg ⟨Imp.fulp rfl, Imp.nil _, trivial⟩, trivial⟩ rfl rfl ?_; rintro _ _ ⟨⟨X2, v2, Y2, Z2⟩, ⟨hv2, hw2⟩, rfl, rfl⟩) | (refine CallOb.mk [] cC rfl ⟨Imp.agg ⟨Imp.fulp rfl, Imp.fulp rfl, trivial⟩, trivial⟩ rfl rfl ?_; rintro _ _ ⟨⟨X3, v3, Y3, Z3⟩, ⟨hv3, hw3⟩, rfl, rfl⟩) | refine And.intro ?_ ?_ | fail); all_goals try (conv => whnf)
  · exact Imp.bpl ⟨fun _ => rfl, fun _ => rfl⟩
  · have e := vf3 hv1 hw1
    exfalso
    dsimp only at e
    subst e
    refine absurd (?_ : conj _) (by assumption)
    simp [conj]
end Go.Proofs.Ytbdahmfjeklgbaa
end
section
namespace Go.Proofs.Ytbdahmfjeklgbaa
open Go.Sx Go.Fq Go.Dt
set_option maxRecDepth 4000
set_option maxHeartbeats 2000000
def cst' (p : Pr) (x : Nat → Rat) : Rat := sm p.c.length (fun j => cR p j * x j)
/- a solution, said of all points -/
structure Sem (p : Pr) (s : Int) (v : Rat) : Prop where
  st : s = 1 ∨ s = 2 ∨ s = 3
  v0 : s ≠ 1 → v = 0
  att : s = 1 → ∃ x, RFeas p x ∧ cst' p x = v
  low : s = 1 → ∀ x, RFeas p x → v ≤ cst' p x
  unb : s = 2 → ∀ M : Rat, ∃ x, RFeas p x ∧ cst' p x < M
  inf : s = 3 → ∀ x, ¬RFeas p x
/- the same points, costs times a positive number -/
theorem Sem.scale {p q : Pr} {s s' : Int} {v v' n : Rat} (h : Sem p s v) (k : Sem q s' v') (hn : 0 < n) (hf : ∀ x, RFeas p x ↔ RFeas q x) (hc : ∀ x, cst' q x = n * cst' p x) : s' = s ∧ v' = n * v := by
  have hi : 0 < n⁻¹ := Rat.inv_pos.2 hn
  have hni : n * n⁻¹ = 1 := Rat.mul_inv_cancel _ (by grind)
  have low : s = 1 → ∀ x, RFeas q x → n * v ≤ cst' q x := fun e x hx => by
    rw [hc]; exact Rat.mul_le_mul_of_nonneg_left (h.low e x ((hf x).2 hx)) (Rat.le_of_lt hn)
  rcases h.st with rfl | rfl | rfl
  · obtain ⟨x, hx, ex⟩ := h.att rfl
    have hq := (hf x).1 hx
    rcases k.st with rfl | rfl | rfl
    · obtain ⟨y, hy, ey⟩ := k.att rfl
      have a1 := k.low rfl x hq
      have a2 := low rfl y hy
      rw [hc, ex] at a1; rw [ey] at a2
      exact ⟨rfl, by grind⟩
    · obtain ⟨y, hy, ey⟩ := k.unb rfl (n * v)
      have := low rfl y hy
      exfalso; grind
    · exact absurd hq (k.inf rfl x)
  · have e0 := h.v0 (by decide)
    subst e0
    obtain ⟨x, hx, _⟩ := h.unb rfl 0
    have hq := (hf x).1 hx
    rcases k.st with rfl | rfl | rfl
    · obtain ⟨y, hy, ey⟩ := h.unb rfl (n⁻¹ * v')
      have a1 := k.low rfl y ((hf y).1 hy)
      rw [hc] at a1
      have h3 := Rat.mul_lt_mul_of_pos_left ey hn
      rw [← Rat.mul_assoc, hni, Rat.one_mul] at h3
      exfalso; grind
    · exact ⟨rfl, by rw [k.v0 (by decide)]; grind⟩
    · exact absurd hq (k.inf rfl x)
  · have e0 := h.v0 (by decide)
    subst e0
    rcases k.st with rfl | rfl | rfl
    · obtain ⟨x, hx, _⟩ := k.att rfl
      exact absurd ((hf x).2 hx) (h.inf rfl x)
    · obtain ⟨x, hx, _⟩ := k.unb rfl 0
      exact absurd ((hf x).2 hx) (h.inf rfl x)
    · exact ⟨rfl, by rw [k.v0 (by decide)]; grind⟩
end Go.Proofs.Ytbdahmfjeklgbaa
end
