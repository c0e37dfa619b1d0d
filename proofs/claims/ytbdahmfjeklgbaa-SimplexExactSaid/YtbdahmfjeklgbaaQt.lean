/-
  A text of the proofs of this seat: lemmas that the statements' proofs use; it states nothing of the program by itself beyond the contracts that its theorems bear. Conditions: those that stand in each theorem. Its short name: Qt.
-/
import Derived.Test.YtbdahmfjeklgbaaQ15
import Derived.Test.YtbdahmfjeklgbaaQ0
set_option linter.unusedVariables false
set_option linter.unusedSimpArgs false
namespace Go.Proofs.Ytbdahmfjeklgbaa
open Go.Sx Go.Fq Go.Dt
set_option maxRecDepth 4000
set_option maxHeartbeats 1000000
/-! what the document's solver returns is a solution -/
theorem SolP.rsol {p : Pr} {x : Sol} (h : SolP p x) : VP p ∧ VF x.2.2.1 ∧ RSol p x.1 (val x.2.2.1) := by
  cases h with
  | inf h ho => exact ⟨h.vp, vf_zero, by rw [val_zero]; exact rinf_ok h.w ho⟩
  | unb h k => exact ⟨h.vp, vf_zero, by rw [val_zero]; exact runb_ok h.w k.w⟩
  | @opt by' s0 s1 s2 s3 s4 z sc z' Y h k hz hX hf hl hY hp hv =>
    obtain ⟨k1, k2, k3, k4, k5⟩ := prod_ok' hv
    obtain ⟨I, _⟩ := ph2_ti h.w k.w
    refine ⟨h.vp, k4, ?_⟩
    have e := ropt_ok h.w k.w hz
    have d0 := I.inv.d0
    dsimp only
    rw [k5, cost_q h.vp k.sc1.1 k.scd d0 (g := xE p s4) (fun k hk => by rw [at_lst hk, (pt_val I hk hX _ (Nat.le_refl _)).2]; rfl)]
    have e2 : sI p.c.length (fun k => cc p sc k * xE p s4 k) = -(s4.1 p.r.length (nE p)) := by
      unfold xE
      rw [sI_basis (fun j _ hb => cc_hi hb)]
      have e := I.inv.cost (nE p) (by omega)
      rw [cc_hi (p := p) (sc := sc) (k := nE p) (by unfold nE; omega), Int.mul_zero] at e
      omega
    rw [e2]; exact e
theorem SolR.rsol {p : Pr} {x : Sol} {e : Int} (h : SolR p (x, e)) : (e = 2 ↔ ¬VP p) ∧ (e = 0 → VF x.2.2.1 ∧ RSol p x.1 (val x.2.2.1)) := by
  rcases h with ⟨h1, h2⟩ | ⟨h1, h2, _⟩ | ⟨h1, h2, _⟩ <;> dsimp only at h1
  · subst h1
    exact ⟨⟨fun h => by omega, fun h => absurd h2.rsol.1 h⟩, fun _ => h2.rsol.2⟩
  · subst h1; exact ⟨⟨fun _ => h2, fun _ => rfl⟩, fun h => by omega⟩
  · subst h1; exact ⟨⟨fun h => by omega, fun h => absurd h2 h⟩, fun h => by omega⟩
end Go.Proofs.Ytbdahmfjeklgbaa
