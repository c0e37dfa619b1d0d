/-
  A text of the proofs of this seat: lemmas that the statements' proofs use; it states nothing of the program by itself beyond the contracts that its theorems bear. Conditions: those that stand in each theorem. Its short name: D19.
-/
import Derived.Test.YtabbnnfobjifiaaD16
import Derived.Test.YtabbnnfobjifiaaD17
import Derived.Test.YtabbnnfobjifiaaD18
import Derived.Test.YtabbnnfobjifiaaTf
import Derived.Test.YtabbnnfobjifiaaK11
import Derived.Test.YtabbnnfobjifiaaK7
set_option linter.unusedVariables false
set_option linter.unusedSimpArgs false
namespace Go.Proofs.Ytabbnnfobjifiaa
open Go.Sx Go.Pk Go.Cv Go.St
set_option maxRecDepth 200000
set_option maxHeartbeats 2000000
--APPX pks_len, Go.Cv.vals_len
theorem pol_len {f : C3} {flow : Int} {p : List Pk} : ∀ i, (pol f flow p i).2.1.length ≤ i ∧ (pol f flow p i).2.2.length ≤ i
  | 0 => ⟨Nat.le_refl _, Nat.le_refl _⟩
  | i + 1 => by
    have h := pol_len (f := f) (flow := flow) (p := p) i
    simp only [pol]
    split
    · split <;> simp only [List.length_append, List.length_singleton] <;> omega
    · simp only [List.length_append, List.length_singleton]; omega
theorem shN_len {f : C3} {flow : Int} {p : List Pk} : ∀ {i : Nat} {R : List (Int × Int)} {o : List Pk}, shN f flow p i = some (R, o) → o.length = i
  | 0, R, o, h => by simp only [shN, Option.some.injEq, Prod.mk.injEq] at h; rw [← h.2]; rfl
  | i + 1, R, o, h => by
    simp only [shN] at h
    split at h
    · cases h
    · rename_i R' o' h'
      have := shN_len h'
      split at h
      · split at h
        · cases h
        · split at h
          · cases h
          · cases h; simp [this]
      · cases h; simp [this]
theorem grN_len {f : C3} {size ticks : Int} : ∀ i, (grN f size ticks i).length ≤ i
  | 0 => Nat.le_refl _
  | i + 1 => by
    have := grN_len (f := f) (size := size) (ticks := ticks) i
    simp only [grN]
    split
    · omega
    · split
      · omega
      · rw [List.length_cons]; omega
theorem PolG.len {p : List Pk} {flow : Int} {vs : List Int} {q i : Int} {x : List Pk × List Int × Int} (h : PolG p flow vs q i x) : x.1.length ≤ p.length ∧ x.2.1.length ≤ p.length := by
  obtain ⟨h1, h2, h3⟩ := h
  by_cases e : x.2.2 = 0
  · rw [e] at h1
    obtain ⟨_, _, hv⟩ := chk_ok h1
    obtain ⟨q', hq, _⟩ := hv.vf
    obtain ⟨e1, e2⟩ := h3 e q' hq
    rw [e1, e2]; exact pol_len _
  · obtain ⟨e1, e2⟩ := h2 e
    rw [e1, e2]; exact ⟨Nat.zero_le _, Nat.zero_le _⟩
theorem ShaG.len {p : List Pk} {flow : Int} {vs : List Int} {q i : Int} {x : List Pk × Int} (h : ShaG p flow vs q i x) : x.1.length ≤ p.length := by
  obtain ⟨e, h1, h2, h3⟩ := h
  by_cases e0 : e = 0
  · subst e0
    obtain ⟨_, _, hv⟩ := chk_ok h1
    obtain ⟨q', hq, _⟩ := hv.vf
    rcases h3 rfl q' hq with ⟨R, o, h4, rfl⟩ | ⟨h4, rfl⟩
    · dsimp only; rw [srt_len, shN_len h4]; exact Nat.le_refl _
    · exact Nat.zero_le _
  · rw [h2 e0]; exact Nat.zero_le _
theorem GreG.len {flow : Int} {vs : List Int} {q i size ticks : Int} {x : List Pk × Int} (h : GreG flow vs q i size ticks x) : x.1.length ≤ 60 := by
  rcases h with ⟨h1, rfl⟩ | ⟨h1, h2, rfl⟩ | ⟨h1, h2, h3⟩
  · exact Nat.zero_le _
  · exact Nat.zero_le _
  · obtain ⟨q', hq, _⟩ := h1.vf
    rw [h3 q' hq]; dsimp only; rw [List.length_map, List.length_reverse]; exact grN_len 60
theorem LeaG.len {p : List Pk} {flow : Int} {x : List Int × Int × Int × Int} (h : LeaG p flow x) : x.1.length ≤ 400 := by
  rcases h with ⟨h1, rfl⟩ | ⟨h1, h2, rfl⟩ | ⟨h1, h2, h3⟩
  · exact Nat.zero_le _
  · exact Nat.zero_le _
  · rcases h3 with ⟨vs, p, q, h4, h5, rfl⟩ | ⟨h4, rfl⟩
    · exact h5.n2
    · exact Nat.zero_le _
/- two functions that answer by the same law answer alike -/
theorem Ctr.uq {P : Program} {f : Nat} {args : List SV} {own : List Chunk} {α : Type} {R : α → Prop} {s : α → SV} {x0 : α} (c : Ctr P f args own (fun r o => ∃ x, R x ∧ o = [] ∧ r = s x)) (u : ∀ x y, R x → R y → x = y) (hx : R x0) : Ctr P f args own (fun r o => o = [] ∧ r = s x0) :=
  c.mono fun r o ⟨x, h, h1, h2⟩ => ⟨h1, by rw [h2, u x x0 h hx]⟩
end Go.Proofs.Ytabbnnfobjifiaa
