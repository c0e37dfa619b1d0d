/-
  A text of the proofs of this seat: lemmas that the statements' proofs use; it states nothing of the program by itself beyond the contracts that its theorems bear. Conditions: those that stand in each theorem. Its short name: Kc.
-/
import Derived.Test.YtifcdempdcolkabR7
import Derived.Test.YtifcdempdcolkabW4
import Derived.Test.YtifcdempdcolkabE1
import Derived.Test.YtifcdempdcolkabK3
import Derived.Test.YtifcdempdcolkabPl
set_option linter.unusedVariables false
set_option linter.unusedSimpArgs false
namespace Go.Proofs.Ytifcdempdcolkab
open Go.Sx Go.Cv
set_option maxRecDepth 4000
set_option maxHeartbeats 2000000
theorem curveP_nf {most : Nat} {f a : C3} (h : CurveP most f) (ha : NrmOf f a) : a.2.1 ≤ 4 ∧ a.1.length ≤ most + 1 ∧ a.2.2 ≤ 35 ∧ ∀ j < a.1.length, a.1.getD j 0 = INF ∨ a.1.getD j 0 ≤ 9 * most + 3 := by
  obtain ⟨b, hb, hcv, _, h1, h2, h3, h4⟩ := h.b
  have e : cv f = cv b := funext hcv
  have hn : NF (cv b) a.1 a.2.1 a.2.2 := by rw [← e]; exact ha.2
  have hv := ha.1
  have hper := hb.per
  obtain ⟨s, g1, g2, g3, g4, g5⟩ := hn
  have hpp : a.2.1 ≤ b.2.1 := g3 _ b.2.1 b.2.2 hb.p1 hper
  have hb2 := Per.back hb.p1 hper g2
  have hs : s ≤ b.1.length - b.2.1 := g4 _ hb2
  have hbn := hb.pn
  have hlen : a.1.length = s + a.2.1 := by rw [g5, vals_len]
  have hdvd := Per.dvd g1 hb2 g3 hper
  obtain ⟨k, hk⟩ := hdvd
  have hqk : b.2.2 = k * a.2.2 := by
    have := hb2.mul k
    rw [show k * a.2.1 = b.2.1 by rw [hk, Nat.mul_comm]] at this
    exact hper.uniq this
  have hk1 : 1 ≤ k := by
    rcases Nat.eq_zero_or_pos k with h0 | h0
    · subst h0; have := hb.p1; omega
    · exact h0
  have hqq : 1 * a.2.2 ≤ (k : Int) * a.2.2 := Int.mul_le_mul_of_nonneg_right (by omega) hv.q0
  refine ⟨by omega, by omega, by omega, fun j hj => ?_⟩
  have e2 : a.1.getD j 0 = b.1.getD j 0 := by
    rw [g5, vals_get (by omega)]; unfold cv; rw [val_lt (by omega)]
  rw [e2]; exact h4 j (by omega)
theorem nrm_exists {f : C3} (h : VC f) : ∃ a, NrmOf f a := by
  obtain ⟨vs, p, q, h1, _⟩ := nf_exists h.p1 h.per
  exact ⟨(vs, p, q), (h1.vf h).1, h1⟩
end Go.Proofs.Ytifcdempdcolkab
