/-
  A text of the proofs of this seat: lemmas that the statements' proofs use; it states nothing of the program by itself beyond the contracts that its theorems bear. Conditions: those that stand in each theorem. Its short name: K12.
-/
import Derived.Test.YtppdpfaipkjpmaaK11
import Derived.Test.YtppdpfaipkjpmaaK10
set_option linter.unusedVariables false
set_option linter.unusedSimpArgs false
namespace Go.Proofs.Ytppdpfaipkjpmaa
open Go.Sx Go.Cv
set_option maxRecDepth 4000
theorem prep_uniq {vs p q ws p' q' a b a' b'} (h : Prep vs p q ws p' q' a b) (k : Prep vs p q ws p' q' a' b') : a = a' ∧ b = b' := by
  obtain ⟨p0, e0, v0, h1⟩ := h.f
  obtain ⟨p1, e1, v1, h2⟩ := h.g
  obtain ⟨r0, d0, _, k1⟩ := k.f
  obtain ⟨r1, d1, _, k2⟩ := k.g
  have : p0 = r0 := by omega
  subst this
  have : p1 = r1 := by omega
  subst this
  obtain ⟨av, ap, aq⟩ := a
  obtain ⟨bv, bp, bq⟩ := b
  obtain ⟨cv, cp, cq⟩ := a'
  obtain ⟨dv, dp, dq⟩ := b'
  obtain ⟨rfl, rfl, rfl⟩ := h1.uniq k1
  obtain ⟨rfl, rfl, rfl⟩ := h2.uniq k2
  exact ⟨rfl, rfl⟩
theorem prep_ok {vs p q ws p' q' a b} (h : Prep vs p q ws p' q' a b) : ValidP vs p q ∧ ValidP ws p' q' := by
  obtain ⟨p0, rfl, v0, _⟩ := h.f
  obtain ⟨p1, rfl, v1, _⟩ := h.g
  exact ⟨v0.valid, v1.valid⟩
theorem prepE_uniq {vs p q ws p' q' e e'} (h : PrepE vs p q ws p' q' e) (k : PrepE vs p q ws p' q' e') : e = e' := by
  rcases h with ⟨rfl, h⟩ | ⟨rfl, a, b, h, _⟩ <;> rcases k with ⟨rfl, k⟩ | ⟨rfl, c, d, k, _⟩
  · rfl
  · have := prep_ok k; rcases h with h | h <;> exact absurd (by first | exact this.1 | exact this.2) h
  · have := prep_ok h; rcases k with k | k <;> exact absurd (by first | exact this.1 | exact this.2) k
  · rfl
theorem prep_noE {vs p q ws p' q' e a b} (h : PrepE vs p q ws p' q' e) (k : Prep vs p q ws p' q' a b) (hc : com a b ≤ 120) : False := by
  rcases h with ⟨_, h⟩ | ⟨_, c, d, h, hc'⟩
  · have := prep_ok k; rcases h with h | h
    · exact h this.1
    · exact h this.2
  · obtain ⟨rfl, rfl⟩ := prep_uniq h k; omega
theorem rest_uniq {vs p q ws p' q' x y} (h : RestP vs p q ws p' q' x) (k : RestP vs p q ws p' q' y) : x = y := by
  rcases h with ⟨e, h, rfl⟩ | ⟨a, b, h, hc, hx⟩ <;> rcases k with ⟨e', k, rfl⟩ | ⟨c, d, k, kc, hy⟩
  · rw [prepE_uniq h k]
  · exact (prep_noE h k kc).elim
  · exact (prep_noE k h hc).elim
  · obtain ⟨rfl, rfl⟩ := prep_uniq h k
    exact hx.uniq hy
theorem above_uniq {vs p q ws p' q' x y} (h : AboveP vs p q ws p' q' x) (k : AboveP vs p q ws p' q' y) : x = y := by
  rcases h with ⟨e, h, rfl⟩ | ⟨a, b, h, hc, hx⟩ <;> rcases k with ⟨e', k, rfl⟩ | ⟨c, d, k, kc, hy⟩
  · rw [prepE_uniq h k]
  · exact (prep_noE h k kc).elim
  · exact (prep_noE k h hc).elim
  · obtain ⟨rfl, rfl⟩ := prep_uniq h k
    rcases hx with ⟨n, hx⟩ | ⟨n, hx⟩ <;> rcases hy with ⟨m, hy⟩ | ⟨m, hy⟩
    · exact hx.uniq hy
    · exact absurd m n
    · exact absurd n m
    · exact hx.uniq hy
theorem mk_len {F x} (h : MkP F x) : x.1.length ≤ 400 := by
  rcases h with ⟨vs, p, q, _, hv, rfl⟩ | ⟨_, rfl⟩
  · exact hv.n2
  · simp
theorem rest_len {vs p q ws p' q' x} (h : RestP vs p q ws p' q' x) : x.1.length ≤ 400 := by
  rcases h with ⟨e, h, rfl⟩ | ⟨a, b, h, hc, hx⟩
  · simp
  · exact mk_len hx
theorem above_len {vs p q ws p' q' x} (h : AboveP vs p q ws p' q' x) : x.1.length ≤ 400 := by
  rcases h with ⟨e, h, rfl⟩ | ⟨a, b, h, hc, ⟨_, hx⟩ | ⟨_, hx⟩⟩
  · simp
  · exact mk_len hx
  · exact mk_len hx
end Go.Proofs.Ytppdpfaipkjpmaa
