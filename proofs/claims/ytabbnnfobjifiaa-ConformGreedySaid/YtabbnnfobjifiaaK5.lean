/-
  A text of the proofs of this seat: lemmas that the statements' proofs use; it states nothing of the program by itself beyond the contracts that its theorems bear. Conditions: those that stand in each theorem. Its short name: K5.
-/
import Derived.Test.YtabbnnfobjifiaaK4
import Derived.Test.YtabbnnfobjifiaaPl
set_option linter.unusedVariables false
set_option linter.unusedSimpArgs false
namespace Go.Proofs.Ytabbnnfobjifiaa
open Go.Sx Go.Cv
set_option maxRecDepth 4000
set_option maxHeartbeats 2000000
theorem prep_nrm {f g a b : C3} (h : Prep f.1 f.2.1 f.2.2 g.1 g.2.1 g.2.2 a b) : NrmOf f a ∧ NrmOf g b := by
  obtain ⟨p0, e0, _, h1⟩ := h.f
  obtain ⟨p1, e1, _, h2⟩ := h.g
  have e0 : p0 = f.2.1 := by omega
  have e1 : p1 = g.2.1 := by omega
  subst e0
  subst e1
  exact ⟨⟨h.va, h1⟩, ⟨h.vb, h2⟩⟩
theorem prepE_nrm {f g : C3} (hf : VC f) (hg : VC g) {e : Int} (h : PrepE f.1 f.2.1 f.2.2 g.1 g.2.1 g.2.2 e) : e = 3 ∧ ∃ a b, NrmOf f a ∧ NrmOf g b ∧ 120 < com a b := by
  rcases h with ⟨_, h | h⟩ | ⟨h, a, b, hP, hc⟩
  · exact absurd hf.valid h
  · exact absurd hg.valid h
  · obtain ⟨h1, h2⟩ := prep_nrm hP
    exact ⟨h, a, b, h1, h2, hc⟩
theorem spl4 {f args own own'} {R : (List Int × Int × Int × Int) → Prop} (h : Ctr Try.prog f args own (fun r o => ∃ x, R x ∧ o = own' ∧ r = crvE x)) :
    Ctr Try.prog f args own (fun r o => ∃ x1 x2 x3 x4, R (x1, x2, x3, x4) ∧ o = own' ∧ r = .tup [crv x1 x2 x3, i64 x4]) :=
  h.mono (fun r o ⟨⟨x1, x2, x3, x4⟩, h1, h2, h3⟩ => ⟨x1, x2, x3, x4, h1, h2, h3⟩)
def Op2 (R : C3 → C3 → (List Int × Int × Int × Int) → Prop) (f g : C3) (x : List Int × Int × Int × Int) : Prop :=
  ∃ a b, NrmOf f a ∧ NrmOf g b ∧ ((120 < com a b ∧ x = ([], 0, 0, 3)) ∨ (com a b ≤ 120 ∧ R a b x))
def AbvR (a b : C3) (x : List Int × Int × Int × Int) : Prop := (¬(FinC b ∧ (FinC a → 0 ≤ drf a b)) ∧ MkP (fun _ => 0) x) ∨ ((FinC b ∧ (FinC a → 0 ≤ drf a b)) ∧ MkP (amn a b) x)
theorem CSum (f g : C3) (hf : VC f) (hg : VC g) : Ctr Try.prog 24 [crv f.1 f.2.1 f.2.2, crv g.1 g.2.1 g.2.2] [] (fun r o => ∃ x, Op2 (fun a b x => MkP (pls a b) x) f g x ∧ o = [] ∧ r = crvE x) :=
  (Sum_ok f.1 f.2.1 f.2.2 g.1 g.2.1 g.2.2).mono (fun r o ⟨x, h1, h2, h3⟩ => ⟨x, by
    rcases h1 with ⟨e, he, rfl⟩ | ⟨a, b, hP, hc, hx⟩
    · obtain ⟨rfl, a, b, h4, h5, h6⟩ := prepE_nrm hf hg he
      exact ⟨a, b, h4, h5, .inl ⟨h6, rfl⟩⟩
    · obtain ⟨h4, h5⟩ := prep_nrm hP
      exact ⟨a, b, h4, h5, .inr ⟨hc, hx⟩⟩, h2, h3⟩)
theorem CNorm (f : C3) (hf : VC f) : Ctr Try.prog 82 [crv f.1 f.2.1 f.2.2] [] (fun r o => ∃ a : C3, NrmOf f a ∧ o = [] ∧ r = .tup [crv a.1 a.2.1 a.2.2, i64 0]) :=
  (Normal_ok f.1 f.2.1 f.2.2).mono (fun r o ⟨x, h1, h2, h3⟩ => by
    obtain ⟨x1, x2, x3, x4⟩ := x
    rcases h1 with ⟨he, p0, p1, e0, e1, h4, h5⟩ | ⟨h, _⟩
    · dsimp only at he e1 h5 h3
      subst he e1
      have e2 : p0 = f.2.1 := by omega
      subst e2
      exact ⟨(x1, p1, x3), ⟨(h5.vf hf).1, h5⟩, h2, h3⟩
    · exact absurd hf.valid h)
theorem CFlat0 : Ctr Try.prog 22 [i64 0] [] (fun r o => o = [] ∧ r = .tup [crv exZ.1 exZ.2.1 exZ.2.2, i64 0]) :=
  (RFlat_ok 0).mono (fun r o ⟨x, h1, h2, h3⟩ => ⟨h2, by rw [h3, mk_zero (flatQ_zero h1)]; rfl⟩)
theorem curveP_nf {most : Nat} {f a : C3} (h : CurveP most f) (ha : NrmOf f a) : a.2.1 ≤ 4 ∧ a.1.length ≤ most + 1 ∧ a.2.2 ≤ 35 ∧ ∀ j < a.1.length, a.1.getD j 0 = INF ∨ a.1.getD j 0 ≤ 9 * most + 3 := by
  obtain ⟨b, hb, hcv, _, h1, h2, h3, h4⟩ := h.b
  have e : cv f = cv b := funext hcv
  have hn : NF (cv b) a.1 a.2.1 a.2.2 := by rw [← e]; exact ha.2
  have hv := ha.1
  have hper := hb.per
  obtain ⟨s, g1, g2, g3, g4, g5⟩ := hn
  have hpp : a.2.1 ≤ b.2.1 := g3 _ b.2.1 b.2.2 hb.p1 hper
  have hb2 := Per.back hb.p1 hper g2
  have hs : s ≤ b.1.length - b.2.1 := g4 _ hb2
  have hbn := hb.pn
  have hlen : a.1.length = s + a.2.1 := by rw [g5, vals_len]
  have hdvd := Per.dvd g1 hb2 g3 hper
  obtain ⟨k, hk⟩ := hdvd
  have hqk : b.2.2 = k * a.2.2 := by
    have := hb2.mul k
    rw [show k * a.2.1 = b.2.1 by rw [hk, Nat.mul_comm]] at this
    exact hper.uniq this
  have hk1 : 1 ≤ k := by
    rcases Nat.eq_zero_or_pos k with h0 | h0
    · subst h0; have := hb.p1; omega
    · exact h0
  have hqq : 1 * a.2.2 ≤ (k : Int) * a.2.2 := Int.mul_le_mul_of_nonneg_right (by omega) hv.q0
  refine ⟨by omega, by omega, by omega, fun j hj => ?_⟩
  have e2 : a.1.getD j 0 = b.1.getD j 0 := by
    rw [g5, vals_get (by omega)]; unfold cv; rw [val_lt (by omega)]
  rw [e2]; exact h4 j (by omega)
theorem com_le16 {a b : C3} (h1 : a.2.1 ≤ 4) (h2 : b.2.1 ≤ 4) (ha : 1 ≤ a.2.1) (hb : 1 ≤ b.2.1) : com a b ≤ 16 := by
  have h3 : com a b ≤ a.2.1 * b.2.1 := Nat.le_of_dvd (Nat.mul_pos ha hb) (Nat.lcm_dvd_mul _ _)
  have h4 : a.2.1 * b.2.1 ≤ 4 * 4 := Nat.mul_le_mul h1 h2
  omega
end Go.Proofs.Ytabbnnfobjifiaa
