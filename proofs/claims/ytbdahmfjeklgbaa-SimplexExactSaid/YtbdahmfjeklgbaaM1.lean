/-
  A text of the proofs of this seat: lemmas that the statements' proofs use; it states nothing of the program by itself beyond the contracts that its theorems bear. Conditions: those that stand in each theorem. Its short name: M1.
-/
import Derived.Test.YtbdahmfjeklgbaaS1
import Derived.Test.YtbdahmfjeklgbaaSxC
set_option linter.unusedVariables false
set_option linter.unusedSimpArgs false
namespace Go.Proofs.Ytbdahmfjeklgbaa
open Go.Sx Go.Fq
set_option maxRecDepth 4000
set_option maxHeartbeats 2000000
/-! lists of integers, and rows of them, by their entries -/
abbrev vcs (w : Nat) (g : Nat → Int) : List (List SV) := (List.range w).map fun k => [i64 (g k)]
abbrev mts (m w : Nat) (f : Nat → Nat → Int) : List (List (List SV)) := (List.range m).map fun i => vcs w (f i)
theorem vcs_len (w g) : (vcs w g).length = w := by simp [vcs]
theorem mts_len (m w f) : (mts m w f).length = m := by simp [mts]
theorem vcs_get {w : Nat} {g : Nat → Int} {k : Nat} (h : k < w) : (vcs w g)[k]? = some [i64 (g k)] := by simp [vcs, h]
theorem mts_get {m w : Nat} {f : Nat → Nat → Int} {i : Nat} (h : i < m) : (mts m w f)[i]? = some (vcs w (f i)) := by simp [mts, h]
theorem vcs_congr {w : Nat} {g h : Nat → Int} (e : ∀ k < w, g k = h k) : vcs w g = vcs w h := by
  unfold vcs; apply List.map_congr_left; intro k hk; rw [e k (by simpa using hk)]
def up (g : Nat → Int) (k : Nat) (v : Int) (j : Nat) : Int := if j = k then v else g j
theorem vcs_set {w : Nat} {g : Nat → Int} {k : Nat} {v : Int} : (vcs w g).set k [i64 v] = vcs w (up g k v) := by
  apply List.ext_getElem?
  intro j
  by_cases hj : j < w
  · rw [vcs_get hj, List.getElem?_set]
    by_cases e : k = j
    · subst e; simp [vcs, hj, up]
    · rw [if_neg e, vcs_get hj]; simp [up, Ne.symm e]
  · rw [List.getElem?_eq_none (by simp [vcs]; omega), List.getElem?_eq_none (by simp [vcs]; omega)]
def up2 (f : Nat → Nat → Int) (i : Nat) (g : Nat → Int) (a b : Nat) : Int := if a = i then g b else f a b
theorem mts_set {m w : Nat} {f : Nat → Nat → Int} {i : Nat} {g : Nat → Int} : (mts m w f).set i (vcs w g) = mts m w (up2 f i g) := by
  apply List.ext_getElem?
  intro j
  by_cases hj : j < m
  · rw [mts_get hj, List.getElem?_set]
    by_cases e : i = j
    · subst e; simp [mts, hj, up2]
    · rw [if_neg e, mts_get hj]; simp [up2, Ne.symm e]
  · rw [List.getElem?_eq_none (by simp [mts]; omega), List.getElem?_eq_none (by simp [mts]; omega)]
theorem vcs_repl (w : Nat) : List.replicate w [i64 0] = vcs w (fun _ => 0) := by
  apply List.ext_getElem?
  intro j
  by_cases hj : j < w
  · rw [vcs_get hj]; simp [hj]
  · rw [List.getElem?_eq_none (by simp; omega), List.getElem?_eq_none (by simp [vcs]; omega)]
theorem mts_app {m w : Nat} {f : Nat → Nat → Int} {g : Nat → Int} : mts m w f ++ [vcs w g] = mts (m + 1) w (up2 f m g) := by
  apply List.ext_getElem?
  intro j
  rcases Nat.lt_trichotomy j m with h | h | h
  · rw [List.getElem?_append_left (by simp [mts]; exact h), mts_get h, mts_get (by omega)]
    simp [up2, Nat.ne_of_lt h]
  · subst h
    rw [List.getElem?_append_right (by simp [mts]), mts_get (by omega)]; simp [mts, up2]
  · rw [List.getElem?_eq_none (by simp [mts]; omega), List.getElem?_eq_none (by simp [mts]; omega)]
/- the tableau's own chunks: the struct, its rows (m and that of the costs), its basis -/
abbrev tbl (n m w : Nat) (f : Nat → Nat → Int) (bs : Nat → Int) (d : Int) (bad : Prop) : List Chunk := [.box [.vec 1, .vec 2, i64 d, .bp bad], .mat 1 (mts n w f), .vec 1 (vcs m bs)]
theorem aP_M1 {A B K : Prop} (k : K) (a : A := by (simp only [zA, zT, zD, zC, zN, ints_len, zR, fr_len, rw_len]; omega)) (b : B := by (simp only [zA, zT, zD, zC, zN, ints_len, zR, fr_len, rw_len]; omega)) : (A ∧ B) ∧ K := ⟨⟨a, b⟩, k⟩
theorem fraction_ok (N m w : Nat) (f : Nat → Nat → Int) (bs : Nat → Int) (d : Int) (bad : Prop) (a b : Int) (hn : -9223372036854775808 < a ∧ a ≤ 9223372036854775807) (hm : -9223372036854775808 < b ∧ b ≤ 9223372036854775807) :
    Ctr Try.prog 50 [.ptr 0 0, i64 a, i64 b] (tbl N m w f bs d bad) (fun r o => ∃ bad' : Prop, (¬bad' → ¬bad ∧ (fnew a b).2.2 = 0) ∧ o = tbl N m w f bs d bad' ∧ r = .agg [i64 (fnew a b).1, i64 (fnew a b).2.1]) := by
  refine Ctr.impO ?_
  refine fn_intro (E := env 3) tys_ok rfl rfl rfl Try.func50 (by kernel_rfl) rfl (by kernel_rfl) ?_
  have cN := rNew_ok a b hn hm
  generalize fnew a b = x at *
  (repeat' (conv => whnf); first | refine aC (fun _ => ?_) (fun _ => ?_) | refine aS ?_ | refine aG ?_ | refine aD ?_ | refine aH ?_ | refine aP_M1 ?_ | refine aI ?_ | refine aJ ?_ | (refine aK [] cN ?_) | fail); all_goals try (conv => whnf)
  · exact ⟨True, by simp, ⟨⟨Imp.refl _, Imp.refl _, Imp.refl _, Imp.bl (by simp), trivial⟩, rfl, rfl, trivial⟩, Imp.refl _⟩
  · exact ⟨_, fun h => ⟨by assumption, Classical.not_not.1 h⟩, OI.refl _, Imp.refl _⟩
end Go.Proofs.Ytbdahmfjeklgbaa
