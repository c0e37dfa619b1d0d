/-
  A text of the proofs of this seat: lemmas that the statements' proofs use; it states nothing of the program by itself beyond the contracts that its theorems bear. Conditions: those that stand in each theorem. Its short name: W6.
-/
import Derived.Test.YtabbnnfobjifiaaW5
set_option linter.unusedVariables false
set_option linter.unusedSimpArgs false
namespace Go.Proofs.Ytabbnnfobjifiaa
open Go.Sx Go.Cv
set_option maxRecDepth 4000
set_option maxHeartbeats 2000000
def flatF (v : Int) (t : Nat) : Int := if t = 0 then 0 else v
theorem flatF_per (v : Int) : Per (flatF v) 1 1 0 := fun t ht => by unfold flatF; rw [if_neg (by omega), if_neg (by omega)]; omega
theorem flatF_mono {v : Int} (h : 0 ≤ v) : Mono (flatF v) := fun t => by unfold flatF; split <;> split <;> omega
theorem flatF_zero : flatF 0 = fun _ => 0 := funext fun t => by unfold flatF; split <;> rfl
def FlatQ (v : Int) (x : List Int × Int × Int × Int) : Prop :=
  (v < 0 ∧ x = ([], 0, 0, 2)) ∨ (0 ≤ v ∧ v ≤ 1073741824 ∧ MkP (flatF v) x) ∨ (1073741824 < v ∧ x = ([], 0, 0, 3))
def AboveP (vs : List Int) (p q : Int) (ws : List Int) (p' q' : Int) (x : List Int × Int × Int × Int) : Prop :=
  (∃ e, PrepE vs p q ws p' q' e ∧ x = ([], 0, 0, e)) ∨
  (∃ a b, Prep vs p q ws p' q' a b ∧ com a b ≤ 120 ∧ ((¬(FinC b ∧ (FinC a → 0 ≤ drf a b)) ∧ MkP (fun _ => 0) x) ∨ ((FinC b ∧ (FinC a → 0 ≤ drf a b)) ∧ MkP (amn a b) x)))
def rdn (V : Nat → Int) (t N : Nat) : List Int := List.replicate t 0 ++ (vals V N).drop t
theorem rdn_len (V : Nat → Int) {t N : Nat} (h : t ≤ N) : (rdn V t N).length = N := by simp [rdn, vals_len]; omega
theorem rdn_set (V : Nat → Int) {t N : Nat} (h : t < N) : (ints (rdn V (t + 1) N)).set t [i64 (V t)] = ints (rdn V t N) := by
  have e : (vals V N).drop t = V t :: (vals V N).drop (t + 1) := by
    rw [List.drop_eq_getElem_cons (by rw [vals_len]; exact h)]
    simp [vals]
  simp only [rdn, e, List.replicate_succ', ints, List.map_append, List.map_cons, List.map_replicate]
  rw [List.append_assoc, List.set_append_right _ _ (by simp)]
  simp
theorem rdn_full (V : Nat → Int) (N : Nat) : rdn V 0 N = vals V N := by simp [rdn]
theorem rdn_zero (V : Nat → Int) (N : Nat) : ints (rdn V N N) = List.replicate N [i64 0] := by
  have : (vals V N).drop N = [] := List.drop_eq_nil_of_le (by rw [vals_len]; omega)
  simp [rdn, this, ints]
def lst (d : Nat → Int) (L t : Nat) : Int := if t = L then INF else wmn d (L - (t + 1)) (t + 1)
theorem lst_step {d : Nat → Int} {L t : Nat} (ht : t ≤ L) (hd : d L ≤ INF) : wmn d (L - t) t = min (lst d L t) (d t) := by
  unfold lst
  split
  · rename_i h; subst h; rw [Nat.sub_self]; simp only [wmn]; omega
  · rw [show L - t = L - (t + 1) + 1 by omega]; simp only [wmn]; omega
end Go.Proofs.Ytabbnnfobjifiaa
