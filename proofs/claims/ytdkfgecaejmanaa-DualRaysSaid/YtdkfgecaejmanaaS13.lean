/-
  A text of the proofs of this seat: lemmas that the statements' proofs use; it states nothing of the program by itself beyond the contracts that its theorems bear. Conditions: those that stand in each theorem. Its short name: S13.
-/
import Derived.Test.YtdkfgecaejmanaaS12
set_option linter.unusedVariables false
set_option linter.unusedSimpArgs false
namespace Go.Proofs.Ytdkfgecaejmanaa
open Go.Sx Go.Fq Go.Dt
set_option maxHeartbeats 1000000
theorem SolR.len {p : Pr} {x : Sol × Int} (h : SolR p x) (hv : VP p) : x.1.2.1.length ≤ 24 ∧ x.1.2.2.2.1.length ≤ 24 ∧ x.1.2.2.2.2.length ≤ 24 := by
  have h1 := hv.2.1
  have h2 := hv.2.2.1
  rcases h with ⟨_, h⟩ | ⟨_, h⟩
  · obtain ⟨a, e⟩ := x
    dsimp only at h ⊢
    cases h <;> simp only [lst_len, List.length_nil] <;> omega
  · rw [h]; simp
theorem SolP.thm {p : Pr} {x : Sol} (h : SolP p x) : (x.1 = 1 ∧ Opt p x.2.1 x.2.2.2.1) ∨ (x.1 = 2 ∧ Unb p x.2.1 x.2.2.2.2) ∨ (x.1 = 3 ∧ Inf p x.2.2.2.1) := by
  cases h with
  | inf h ho hl hY hp => exact .inr (.inr ⟨rfl, inf_ok h ho hl hY hp⟩)
  | unb h k hX hY hf hr => exact .inr (.inl ⟨rfl, unb_ok h k hY hf hr⟩)
  | opt h k hz hX hf hl hY hp hv => exact .inl ⟨rfl, opt_ok h k hz hX hf hl hY hp hv⟩
theorem hom_col {p : Pr} {j : Nat} : col (hom p) j = col p j := by unfold col hom; simp [List.map_map, Function.comp_def]
theorem hom_sgn {p : Pr} {y : List F} (h : Sgn p y) : Sgn (hom p) y := by
  refine (sgn_iff (hom_vp h.1) (by rw [h.2.1]; simp [hom])).2 fun j hj => ?_
  have hj' : j < p.r.length := by simpa [hom] using hj
  have := (sgn_iff h.1 h.2.1).1 h j hj'
  have e : ((hom p).r.getD j rw0).2.1 = (p.r.getD j rw0).2.1 := by
    simp [hom, List.getD_eq_getElem?_getD, hj']
  unfold SgnAt at this ⊢
  rw [e]; exact this
theorem opt_unb {p : Pr} {x x' y ray : List F} (h : Opt p x y) : ¬Unb p x' ray := by
  rintro ⟨_, hr, hc, hneg⟩
  obtain ⟨hv, hs, hl, _⟩ := bound_ok h.2.1
  obtain ⟨c1, c2, c3, c4, c5⟩ := prod_ok' hc
  have h3 := c4.neg.1 hneg
  rw [c5] at h3
  have hr' : Feas (hom p) ray := hr
  have hA : ∀ i < p.r.length, ∀ j, A (hom p) i j = A p i j := fun i hi j => by
    unfold A; simp [hom, List.getD_eq_getElem?_getD, hi]
  have := weak (n := p.c.length) (m := p.r.length) (a := A (hom p)) (b := at' (bds (hom p))) (c := at' p.c) (x := at' ray) (y := at' y) (fun j hj => feas_x hr' hj)
    (fun j hj => by
      have h1 := blw_le hl hj (by rw [List.getD_eq_getElem?_getD]; simp only [hj, List.getElem?_eq_getElem, Option.getD_some]; exact c2 _ (List.getElem_mem hj))
      rw [sm_congr (g := fun i => A p i j * at' y i) (fun i hi => by rw [hA i hi])]
      exact h1)
    (fun i hi => row_le (hom_sgn hs) hr' (by simpa [hom] using hi))
  have e : sm p.r.length (fun i => at' (bds (hom p)) i * at' y i) = 0 := by
    rw [sm_congr (g := fun _ => 0) (fun i hi => by rw [at_bds (by simpa [hom] using hi)]; simp only [hom, List.getElem_map]; rw [val_zero]; grind)]; exact sm_zero
  rw [e] at this
  grind
end Go.Proofs.Ytdkfgecaejmanaa
