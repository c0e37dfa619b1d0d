/-
  A text of the proofs of this seat: lemmas that the statements' proofs use; it states nothing of the program by itself beyond the contracts that its theorems bear. Conditions: those that stand in each theorem. Its short name: P3.
-/
import Derived.Test.YtbdahmfjeklgbaaP2
set_option linter.unusedVariables false
set_option linter.unusedSimpArgs false
namespace Go.Proofs.Ytbdahmfjeklgbaa
open Go.Sx Go.Fq
set_option maxRecDepth 4000
set_option maxHeartbeats 2000000
abbrev rwv (w : Rw) : List SV := [fsl w.1, i64 w.2.1, i64 w.2.2.1, i64 w.2.2.2]
abbrev rws (l : List Rw) : List (List SV) := l.map rwv
abbrev prv (p : Pr) : SV := .agg [fsl p.c, .psl 4 (rws p.r)]
abbrev rw0 : Rw := ([], 0, (0, 1))
theorem rw_len (l : List Rw) : (rws l).length = l.length := by simp [rws]
theorem rw_get {l : List Rw} {i : Nat} (h : i < l.length) : (rws l)[i]? = some (rwv (l.getD i rw0)) := by simp [rws, h]
theorem rall_to {l : List Rw} {P : Rw → Prop} {i : Nat} (h : ∀ j < i, P (l.getD j rw0)) (hi : l.length ≤ i) : ∀ f ∈ l, P f := by
  intro f hf
  obtain ⟨j, hj, rfl⟩ := List.mem_iff_getElem.1 hf
  have := h j (by omega)
  simpa [hj] using this
theorem rall_at {l : List Rw} {P : Rw → Prop} (h : ∀ f ∈ l, P f) {i : Nat} (hi : i < l.length) : P (l.getD i rw0) := by
  have := h l[i] (List.getElem_mem hi)
  simpa [hi] using this
theorem rall_step {l : List Rw} {P : Rw → Prop} {i : Nat} (h : ∀ j < i, P (l.getD j rw0)) (hi : P (l.getD i rw0)) : ∀ j < i + 1, P (l.getD j rw0) := by
  intro j hj
  by_cases e : j = i
  · rw [e]; exact hi
  · exact h j (by omega)
def RwOK (n : Nat) (w : Rw) : Prop := w.1.length = n ∧ 1 ≤ w.2.1 ∧ w.2.1 ≤ 3 ∧ (∀ f ∈ w.1, VF f) ∧ VF w.2.2
theorem vp_iff {p : Pr} : VP p ↔ 1 ≤ p.c.length ∧ p.c.length ≤ 6 ∧ p.r.length ≤ 24 ∧ (∀ f ∈ p.c, VF f) ∧ ∀ w ∈ p.r, RwOK p.c.length w := Iff.rfl
/- lists of a programme that a slice can hold -/
def PL (p : Pr) : Prop := p.c.length ≤ 9223372036854775807 ∧ p.r.length ≤ 9223372036854775807 ∧ ∀ w ∈ p.r, w.1.length ≤ 9223372036854775807
theorem VP.pl {p} (h : VP p) : PL p := ⟨by have := h.2.1; omega, by have := h.2.2.1; omega, fun w hw => by have := (h.2.2.2.2 w hw).1; have := h.2.1; omega⟩
theorem aP_P3 {A B K : Prop} (k : K) (a : A := by (simp only [zA, zT, zD, zC, zN, ints_len, zR, fr_len, rw_len]; omega)) (b : B := by (simp only [zA, zT, zD, zC, zN, ints_len, zR, fr_len, rw_len]; omega)) : (A ∧ B) ∧ K := ⟨⟨a, b⟩, k⟩
theorem Valid_ok (p : Pr) (hp : PL p) : Ctr Try.prog 19 [prv p] [] (fun r o => o = [] ∧ r = .bp (VP p)) := by
  refine Ctr.imp ?_
  refine fn_intro (E := env 0) tys_ok rfl rfl rfl Try.func19 (by kernel_rfl) rfl (by kernel_rfl) ?_
  obtain ⟨hp1, hp2, hp3⟩ := hp
  have hlc := fr_len p.c
  have hlr := rw_len p.r
  (repeat' (conv => whnf); first | (refine aC (fun _ => ?_) (fun _ => ?_) <;> try (exfalso; omega)) | refine aS ?_ | refine aG ?_ | refine aD ?_ | refine aH ?_ | refine aP_P3 ?_ | refine aI ?_ | refine aJ ?_ | (refine aK [] (valid_ok p.c hp1) ?_) | fail); all_goals try (conv => whnf)
  · exact ⟨rfl, Imp.bl ⟨fun h => (by cases h), fun h => by have := (vp_iff.1 h).1; omega⟩⟩
  · exact ⟨rfl, Imp.bl ⟨fun h => (by cases h), fun h => by have := (vp_iff.1 h).2.1; omega⟩⟩
  · exact ⟨rfl, Imp.bl ⟨fun h => (by cases h), fun h => by have := (vp_iff.1 h).2.2.1; omega⟩⟩
  · exact ⟨rfl, Imp.bl ⟨fun h => (by cases h), fun h => absurd (vp_iff.1 h).2.2.2.1 (by assumption)⟩⟩
  have hvc := Classical.not_not.1 ‹¬¬∀ (f : F), f ∈ p.c → VF f›
  refine LoopOb.mk (Y := Nat) (st := fun i => ⟨[(30, i64 i), (29, i64 (rws p.r).length), (28, .psl 4 (rws p.r)), (3, i64 (fr2 p.c).length), (2, .bl false), (1, .ptr 0 0)], [.box [fsl p.c, .psl 4 (rws p.r)]]⟩)
    (inv := fun i => i ≤ p.r.length ∧ ∀ j < i, RwOK p.c.length (p.r.getD j rw0)) (fun i => p.r.length - i) 0 [0] ⟨by omega, by omega⟩ (by (exact aL)) ?_
  rintro i ⟨hi, hv⟩
  (repeat' (conv => whnf); first | refine aS ?_ | refine aG ?_ | refine aD ?_ | refine aH ?_ | refine aP_P3 ?_ | refine aI ?_ | refine aJ ?_ | fail); all_goals try (conv => whnf)
  refine CondOb.mk (fun hlt => ?_) (fun hlt => ?_)
  · have hil : i < p.r.length := by omega
    have hgt := rw_get hil
    have hst : RwOK p.c.length (p.r.getD i rw0) → _ := fun h => rall_step hv h
    have hno : ¬ RwOK p.c.length (p.r.getD i rw0) → ¬ VP p := fun h k => h (rall_at k.2.2.2.2 hil)
    have hwl := rall_at hp3 hil
    generalize p.r.getD i rw0 = w at *
    have hlw := fr_len w.1
    (repeat' (conv => whnf); first | refine aC (fun _ => ?_) (fun _ => ?_) | refine aS ?_ | refine aG ?_ | refine aD ?_ | refine aH ?_ | refine aP_P3 ?_ | refine aI ?_ | refine aJ ?_ | refine ⟨i, _, rfl, hgt, ?_⟩ | (refine aK [] (valid_ok w.1 hwl) ?_) | (refine aK [] (fValid_ok w.2.2.1 w.2.2.2) ?_) | fail); all_goals try (conv => whnf)
    · exact ⟨rfl, Imp.bl ⟨fun h => (by cases h), fun h => absurd h (hno fun k => by have := k.1; omega)⟩⟩
    · exact ⟨rfl, Imp.bl ⟨fun h => (by cases h), fun h => absurd h (hno fun k => by have := k.2.1; omega)⟩⟩
    · exact ⟨rfl, Imp.bl ⟨fun h => (by cases h), fun h => absurd h (hno fun k => by have := k.2.2.1; omega)⟩⟩
    · exact ⟨rfl, Imp.bl ⟨fun h => (by cases h), fun h => absurd h (hno fun k => absurd k.2.2.2.1 (by assumption))⟩⟩
    · exact ⟨rfl, Imp.bl ⟨fun h => (by cases h), fun h => absurd h (hno fun k => absurd k.2.2.2.2 (by assumption))⟩⟩
    · exact ⟨i + 1, [0], ⟨by omega, hst ⟨by omega, by omega, by omega, Classical.not_not.1 (by assumption), Classical.not_not.1 (by assumption)⟩⟩, by omega, by (exact aL)⟩
  · (repeat' (conv => whnf); first | refine aC (fun _ => ?_) (fun _ => ?_) | refine aS ?_ | refine aG ?_ | refine aD ?_ | refine aH ?_ | refine aP_P3 ?_ | refine aI ?_ | refine aJ ?_ | fail); all_goals try (conv => whnf)
    exact ⟨rfl, Imp.bl ⟨fun _ => ⟨by omega, by omega, by omega, hvc, rall_to hv (by omega)⟩, fun _ => rfl⟩⟩
theorem rValidP_ok (p : Pr) (hp : PL p) : Ctr Try.prog 20 [prv p] [] (fun r o => o = [] ∧ r = .bp (VP p)) := by
  refine Ctr.imp ?_
  refine fn_intro (E := env 0) tys_ok rfl rfl rfl Try.func20 (by kernel_rfl) rfl (by kernel_rfl) ?_
  obtain ⟨hp1, hp2, hp3⟩ := hp
  have hlc := fr_len p.c
  have hlr := rw_len p.r
  (repeat' (conv => whnf); first | (refine aC (fun _ => ?_) (fun _ => ?_) <;> try (exfalso; omega)) | refine aS ?_ | refine aG ?_ | refine aD ?_ | refine aH ?_ | refine aP_P3 ?_ | refine aI ?_ | refine aJ ?_ | (refine aK [] (all_ok p.c hp1) ?_) | fail); all_goals try (conv => whnf)
  · exact ⟨rfl, Imp.bl ⟨fun h => (by cases h), fun h => by have := (vp_iff.1 h).1; omega⟩⟩
  · exact ⟨rfl, Imp.bl ⟨fun h => (by cases h), fun h => by have := (vp_iff.1 h).2.1; omega⟩⟩
  · exact ⟨rfl, Imp.bl ⟨fun h => (by cases h), fun h => by have := (vp_iff.1 h).2.2.1; omega⟩⟩
  · exact ⟨rfl, Imp.bl ⟨fun h => (by cases h), fun h => absurd (vp_iff.1 h).2.2.2.1 (by assumption)⟩⟩
  have hvc := Classical.not_not.1 ‹¬¬∀ (f : F), f ∈ p.c → VF f›
  refine LoopOb.mk (Y := Nat) (st := fun i => ⟨[(3, i64 i), (2, .bl false), (1, .ptr 0 0)], [.box [fsl p.c, .psl 4 (rws p.r)]]⟩)
    (inv := fun i => i ≤ p.r.length ∧ ∀ j < i, RwOK p.c.length (p.r.getD j rw0)) (fun i => p.r.length - i) 0 [0] ⟨by omega, by omega⟩ (by (exact aL)) ?_
  rintro i ⟨hi, hv⟩
  (repeat' (conv => whnf); first | refine aS ?_ | refine aG ?_ | refine aD ?_ | refine aH ?_ | refine aP_P3 ?_ | refine aI ?_ | refine aJ ?_ | fail); all_goals try (conv => whnf)
  refine CondOb.mk (fun hlt => ?_) (fun hlt => ?_)
  · have hil : i < p.r.length := by omega
    have hgt := rw_get hil
    have hst : RwOK p.c.length (p.r.getD i rw0) → _ := fun h => rall_step hv h
    have hno : ¬ RwOK p.c.length (p.r.getD i rw0) → ¬ VP p := fun h k => h (rall_at k.2.2.2.2 hil)
    have hwl := rall_at hp3 hil
    generalize p.r.getD i rw0 = w at *
    have hlw := fr_len w.1
    (repeat' (conv => whnf); first | refine aC (fun _ => ?_) (fun _ => ?_) | refine aS ?_ | refine aG ?_ | refine aD ?_ | refine aH ?_ | refine aP_P3 ?_ | refine aI ?_ | refine aJ ?_ | refine ⟨i, _, rfl, hgt, ?_⟩ | (refine aK [] (all_ok w.1 hwl) ?_) | (refine aK [] (rValid_ok w.2.2.1 w.2.2.2) ?_) | fail); all_goals try (conv => whnf)
    · exact ⟨rfl, Imp.bl ⟨fun h => (by cases h), fun h => absurd h (hno fun k => by have := k.1; omega)⟩⟩
    · exact ⟨rfl, Imp.bl ⟨fun h => (by cases h), fun h => absurd h (hno fun k => by have := k.2.1; omega)⟩⟩
    · exact ⟨rfl, Imp.bl ⟨fun h => (by cases h), fun h => absurd h (hno fun k => by have := k.2.2.1; omega)⟩⟩
    · exact ⟨rfl, Imp.bl ⟨fun h => (by cases h), fun h => absurd h (hno fun k => absurd k.2.2.2.1 (by assumption))⟩⟩
    · exact ⟨rfl, Imp.bl ⟨fun h => (by cases h), fun h => absurd h (hno fun k => absurd k.2.2.2.2 (by assumption))⟩⟩
    · exact ⟨i + 1, [0], ⟨by omega, hst ⟨by omega, by omega, by omega, Classical.not_not.1 (by assumption), Classical.not_not.1 (by assumption)⟩⟩, by omega, by (exact aL)⟩
  · (repeat' (conv => whnf); first | refine aC (fun _ => ?_) (fun _ => ?_) | refine aS ?_ | refine aG ?_ | refine aD ?_ | refine aH ?_ | refine aP_P3 ?_ | refine aI ?_ | refine aJ ?_ | fail); all_goals try (conv => whnf)
    exact ⟨rfl, Imp.bl ⟨fun _ => ⟨by omega, by omega, by omega, hvc, rall_to hv (by omega)⟩, fun _ => rfl⟩⟩
end Go.Proofs.Ytbdahmfjeklgbaa
