/-
  A text of the proofs of this seat: lemmas that the statements' proofs use; it states nothing of the program by itself beyond the contracts that its theorems bear. Conditions: those that stand in each theorem. Its short name: Aw.
-/
import Derived.Test.YtppdpfaipkjpmaaAm
set_option linter.unusedVariables false
set_option linter.unusedSimpArgs false
namespace Go.Cv
/-! the example of the chapter -/
def exF : C3 := ([0], 1, 10)
def exG : C3 := ([0, 14, 14, 28], 2, 14)
def exH : C3 := ([0, 14], 2, 14)
theorem mono_dec {vs : List Int} (h : ∀ j < vs.length, j + 1 < vs.length → vs.getD j 0 ≤ vs.getD (j + 1) 0) : ∀ j k, j ≤ k → k < vs.length → vs.getD j 0 ≤ vs.getD k 0 := mono_of (fun j hj => h j (by omega) hj)
theorem vf_of_dec {vs : List Int} {p : Nat} {q : Int} (h : ValidP vs p q) : VF vs p q := by
  obtain ⟨p', e, hv⟩ := h.vf
  have : p = p' := by omega
  subst this; exact hv
theorem exF_v : VC exF := ⟨by decide, by decide, by decide, by decide, by decide, by decide, by decide, by decide, fun j k h1 h2 => by
  have : k = 0 := by simp [exF] at h2; omega
  subst this
  have : j = 0 := by omega
  subst this; exact Int.le_refl _, fun h => by revert h; decide, fun _ => by decide⟩
theorem exG_v : VC exG := ⟨by decide, by decide, by decide, by decide, by decide, by decide, by decide, by decide, mono_dec (by decide), fun h => by revert h; decide, fun _ => by decide⟩
theorem exH_v : VC exH := ⟨by decide, by decide, by decide, by decide, by decide, by decide, by decide, by decide, mono_dec (by decide), fun h => by revert h; decide, fun _ => by decide⟩
theorem exF_nf : NF (cv exF) exF.1 exF.2.1 exF.2.2 :=
  ⟨0, by decide, exF_v.per, fun s' p' q' h _ => h, fun s' _ => Nat.zero_le _, by decide⟩
theorem exG_per : Per (cv exG) 0 2 14 := by
  have h : Per (cv exG) 2 2 14 := exG_v.per
  have h1 : Per (cv exG) 1 2 14 := h.pred (by decide)
  exact h1.pred (by decide)
theorem exG_nf : NF (cv exG) exH.1 exH.2.1 exH.2.2 := by
  refine ⟨0, by decide, exG_per, ?_, fun s' _ => Nat.zero_le _, by decide⟩
  refine Fits.min (by decide) exG_per (fun p' h1 h2 => ?_)
  have : p' = 1 := by simp only [exH] at h2; omega
  subst this
  rintro ⟨_, _, h3⟩
  have := h3 0 (by decide) (by decide)
  revert this; decide
theorem ex_prep {a b : C3} (ha : NF (cv exF) a.1 a.2.1 a.2.2) (hb : NF (cv exG) b.1 b.2.1 b.2.2) : a = exF ∧ b = exH := by
  obtain ⟨h1, h2, h3⟩ := ha.uniq exF_nf
  obtain ⟨h4, h5, h6⟩ := hb.uniq exG_nf
  exact ⟨Prod.ext h1 (Prod.ext h2 h3), Prod.ext h4 (Prod.ext h5 h6)⟩
theorem ex_com : com exF exH = 2 := by decide
theorem ex_frm : frm exF exH = 0 := by decide
theorem ex_drf : drf exF exH = 6 := by decide
theorem exF_f : FinC exF := by decide
theorem exH_f : FinC exH := by decide
theorem ex_rest {x : List Int × Int × Int × Int} (h : MkP (rmx (dif exF exH)) x) : ∃ c : C3, VC c ∧ x = (c.1, (c.2.1 : Int), c.2.2, 0) ∧ ∀ t, cv c t = rmx (dif exF exH) t := by
  have hd := dif_per exF_v exH_v exF_f exH_f
  rw [ex_frm, ex_com, ex_drf] at hd
  have hper : Per (rmx (dif exF exH)) 4 2 6 := rest_per (by decide) hd (by decide) (by decide) (by decide +kernel) (by decide +kernel)
  obtain ⟨c, h1, h2, _⟩ := vf_exists (by decide) hper (rmx_nonneg _ _) (rmx_mono _) (by decide) (by decide) (by decide) (by decide +kernel)
  rcases h with ⟨vs, p, q, h3, h4, rfl⟩ | ⟨h3, _⟩
  · exact ⟨(vs, p, q), h4, rfl, h4.sound h3⟩
  · exact absurd h2 (h3 _ _ _ h1)
theorem ex_above {x : List Int × Int × Int × Int} (h : MkP (amn exF exH) x) : ∃ c : C3, VC c ∧ x = (c.1, (c.2.1 : Int), c.2.2, 0) ∧ ∀ t, cv c t = amn exF exH t := by
  have hd := dif_per exF_v exH_v exF_f exH_f
  have h0 : ∀ u, 2 ≤ u → 0 ≤ dif exF exH u := by
    intro u hu
    rw [ex_frm, ex_com, ex_drf] at hd
    obtain ⟨r, h1, h2, h3⟩ := per_down (by decide) hd (by decide) hu
    have h4 : ∀ r, 2 ≤ r → r < 4 → 0 ≤ dif exF exH r := fun r h5 h6 => by
      have : r = 2 ∨ r = 3 := by omega
      rcases this with rfl | rfl <;> decide +kernel
    have := h4 r h1 (by omega)
    omega
  have hper := amn_per exF_v exH_v exF_f exH_f (s := 2) (by decide) h0
  rw [ex_com, ex_drf] at hper
  obtain ⟨c, h1, h2, _⟩ := vf_exists (by decide) hper (by decide +kernel) (amn_mono exF_v exH_v exH_f (fun _ => by decide)) (by decide) (by decide) (by decide) (by decide +kernel)
  rcases h with ⟨vs, p, q, h3, h4, rfl⟩ | ⟨h3, _⟩
  · exact ⟨(vs, p, q), h4, rfl, h4.sound h3⟩
  · exact absurd h2 (h3 _ _ _ h1)
end Go.Cv
