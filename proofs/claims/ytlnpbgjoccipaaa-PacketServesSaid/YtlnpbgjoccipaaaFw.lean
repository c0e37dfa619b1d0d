/-
  A text of the proofs of this seat: lemmas that the statements' proofs use; it states nothing of the program by itself beyond the contracts that its theorems bear. Conditions: those that stand in each theorem. Its short name: Fw.
-/
import Derived.Test.YtlnpbgjoccipaaaA3
import Derived.Test.YtlnpbgjoccipaaaPl
set_option linter.unusedVariables false
set_option linter.unusedSimpArgs false
namespace Go.Proofs.Ytlnpbgjoccipaaa
open Go.Sx Go.Pk Go.Cv Go.St
set_option maxRecDepth 8000
set_option maxHeartbeats 2000000
--APPX pks_len, avs_len
theorem arN_mem {p : List Pk} {d : List Int} : ∀ {i : Nat} {a : Av}, a ∈ arN p d i → a.i < i ∧ d.getD a.i 0 ≠ -1 ∧ a.x = ⟨(p.getD a.i pk0).f, d.getD a.i 0 + 1, (p.getD a.i pk0).s⟩
  | 0, a, h => by simp [arN] at h
  | i + 1, a, h => by
    simp only [arN] at h
    split at h
    · have := arN_mem h; exact ⟨by omega, this.2⟩
    · split at h
      · rcases List.mem_append.1 h with h | h
        · have := arN_mem h; exact ⟨by omega, this.2⟩
        · rw [List.mem_singleton.1 h]; exact ⟨by simp, by assumption, rfl⟩
      · have := arN_mem h; exact ⟨by omega, this.2⟩
theorem fwd_vld {p : List Pk} (hv : Vld p) {d : List Int} (hd : OKd p d) : Vld (fwP (fwd p d)) := by
  refine vld_of ?_ ?_ ?_
  · have h1 := arN_len p d p.length
    have h2 := hv.l
    simp only [List.length_map, fwd, srt_len]; omega
  · intro x hx
    obtain ⟨a, ha, rfl⟩ := List.mem_map.1 hx
    obtain ⟨h1, h2, h3⟩ := arN_mem (srt_mem.1 ha)
    have h4 := hv.g a.i h1
    have h5 := hd.g a.i h1
    have h6 := a.h
    rw [h3] at h6 ⊢
    unfold bad at h4 ⊢
    dsimp only at h6 ⊢
    omega
  · exact srt_map (k := ptm) (g := fun a : Av => a.x) (srt_sorted _ _)
/- what arrives before a tick -/
def arS (p : List Pk) (d : List Int) (n : Int) : Nat → Int
  | 0 => 0
  | i + 1 => if 0 ≤ d.getD i 0 ∧ d.getD i 0 + 1 < n then arS p d n i + (p.getD i pk0).s else arS p d n i
theorem arS_eq {p : List Pk} (hv : Vld p) {d : List Int} (hd : OKd p d) (n : Int) : ∀ i, i ≤ p.length → sumA (fun a : Av => bef n a.x) (arN p d i) = arS p d n i
  | 0, _ => rfl
  | i + 1, hi => by
    have ih := arS_eq hv hd n i (by omega)
    have h4 := hv.g i (by omega)
    have h5 := hd.g i (by omega)
    unfold bad at h4
    simp only [arN, arS]
    by_cases h : d.getD i 0 = -1
    · rw [if_pos h, if_neg (by omega), ih]
    · rw [if_neg h, dif_pos (by omega), sumA_app, ih]
      simp only [sumA, bef]
      by_cases h2 : d.getD i 0 + 1 < n
      · rw [if_pos h2, if_pos ⟨by omega, h2⟩]; omega
      · rw [if_neg h2, if_neg (fun h3 => h2 h3.2)]; omega
theorem fwd_bys {p : List Pk} (hv : Vld p) {d : List Int} (hd : OKd p d) (n : Int) : bys (fwP (fwd p d)) (-1) n = arS p d n p.length := by
  rw [bys_all, sumA_map, fwd, sumA_srt, arS_eq hv hd n _ (Nat.le_refl _)]
theorem arS_bd {p : List Pk} (hv : Vld p) (d : List Int) (n : Int) : ∀ i, i ≤ p.length → 0 ≤ arS p d n i ∧ arS p d n i ≤ 1000000 * i
  | 0, _ => by simp [arS]
  | i + 1, hi => by
    have ih := arS_bd hv d n i (by omega)
    have := hv.sml _ (getD_memP (l := p) (i := i) (by omega))
    simp only [arS]; push_cast; split <;> omega
end Go.Proofs.Ytlnpbgjoccipaaa
