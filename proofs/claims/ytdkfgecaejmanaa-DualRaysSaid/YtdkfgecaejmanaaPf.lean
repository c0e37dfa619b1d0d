/-
  A text of the proofs of this seat: lemmas that the statements' proofs use; it states nothing of the program by itself beyond the contracts that its theorems bear. Conditions: those that stand in each theorem. Its short name: Pf.
-/
import Derived.Test.YtdkfgecaejmanaaPl
set_option linter.unusedVariables false
set_option linter.unusedSimpArgs false
namespace Go.Fq
theorem sm_div {n d : Int} (hd : 0 < d) (h1 : n.natAbs ≤ MT) (h2 : d.natAbs ≤ MT) : Sm ((n : Rat) / (d : Rat)) := by
  have e : (n : Rat) / (d : Rat) = Rat.divInt n d := (Rat.divInt_eq_div n d).symm
  obtain ⟨t1, t2⟩ := divInt_terms n d (by omega)
  rw [e]
  refine ⟨?_, ?_⟩
  · rw [t2]
    have := Nat.div_le_self n.natAbs (Nat.gcd n.natAbs d.natAbs)
    generalize n.natAbs / Nat.gcd n.natAbs d.natAbs = q at *
    split <;> simp only [Int.natAbs_neg, Int.natAbs_natCast] <;> omega
  · rw [t1]
    have := Nat.div_le_self d.natAbs (Nat.gcd n.natAbs d.natAbs)
    generalize d.natAbs / Nat.gcd n.natAbs d.natAbs = q at *
    omega
theorem fenc_fit {r : Rat} (h : Sm r) : (fenc r).2.2 = 0 ∧ VF ((fenc r).1, (fenc r).2.1) ∧ val ((fenc r).1, (fenc r).2.1) = r := by
  unfold fenc; rw [if_pos h]
  exact ⟨rfl, vf_enc h, val_enc⟩
/- numerators of the entries, by their list -/
def tot : List Int → List Int → Nat
  | a :: as, g :: gs => (a * g).natAbs + tot as gs
  | _, _ => 0
/- a product of integers and of fractions over one denominator fits if its numerators do -/
theorem pgo_fit {d : Int} (hd : 0 < d) (hd2 : d.natAbs ≤ MT) : ∀ {a b : List F} {ga gb : List Int} {s : F} {S : Int}, a.length = b.length → ga.length = a.length → gb.length = b.length → (∀ f ∈ a, VF f) → (∀ f ∈ b, VF f) →
    (∀ i < a.length, at' a i = (ga.getD i 0 : Rat)) → (∀ i < b.length, at' b i = (gb.getD i 0 : Rat) / (d : Rat)) → VF s → val s = (S : Rat) / (d : Rat) → S.natAbs + tot ga gb ≤ MT → (pgo a b s).2.2 = 0
  | [], [], _, _, s, S, _, _, _, _, _, _, _, _, _, _ => rfl
  | x :: xs, y :: ys, g :: gs, h :: hs, s, S, hl, h1, h2, va, vb, ea, eb, vs, es, ht => by
    have ex : val x = (g : Rat) := by simpa [at'] using ea 0 (by simp)
    have ey : val y = (h : Rat) / (d : Rat) := by simpa [at'] using eb 0 (by simp)
    have hx := va x (by simp)
    have hy := vb y (by simp)
    simp only [tot] at ht
    have em : val x * val y = ((g * h : Int) : Rat) / (d : Rat) := by rw [ex, ey, Rat.intCast_mul]; grind
    have f1 : fmul x y = fenc (((g * h : Int) : Rat) / (d : Rat)) := by unfold fmul; rw [if_pos ⟨hx, hy⟩, em]
    obtain ⟨m1, m2, m3⟩ := fenc_fit (sm_div (n := g * h) hd (by omega) hd2)
    have ed : val s + ((g * h : Int) : Rat) / (d : Rat) = ((S + g * h : Int) : Rat) / (d : Rat) := by rw [es, Rat.intCast_add]; grind
    have f2 : fadd s ((fmul x y).1, (fmul x y).2.1) = fenc (((S + g * h : Int) : Rat) / (d : Rat)) := by
      unfold fadd; rw [f1, if_pos ⟨vs, m2⟩, m3, ed]
    obtain ⟨n1, n2, n3⟩ := fenc_fit (sm_div (n := S + g * h) hd (by omega) hd2)
    unfold pgo
    rw [f2, if_pos (by rw [f1]; exact m1), if_pos n1]
    refine pgo_fit hd hd2 (ga := gs) (gb := hs) (S := S + g * h) (by simpa using hl) (by simpa using h1) (by simpa using h2) (fun f hf => va f (by simp [hf])) (fun f hf => vb f (by simp [hf])) ?_ ?_ n2 n3 (by omega)
    · intro i hi; have := ea (i + 1) (by simpa using hi); simpa [at'] using this
    · intro i hi; have := eb (i + 1) (by simpa using hi); simpa [at'] using this
end Go.Fq
