/-
  A text of the proofs of this seat: lemmas that the statements' proofs use; it states nothing of the program by itself beyond the contracts that its theorems bear. Conditions: those that stand in each theorem. Its short name: P4.
-/
import Derived.Test.YtbdahmfjeklgbaaP3
set_option linter.unusedVariables false
set_option linter.unusedSimpArgs false
namespace Go.Proofs.Ytbdahmfjeklgbaa
open Go.Sx Go.Fq
set_option maxRecDepth 4000
set_option maxHeartbeats 2000000
theorem aP_P4 {A B K : Prop} (k : K) (a : A := by (simp only [zA, zT, zD, zC, zN, ints_len, zR, fr_len, rw_len]; omega)) (b : B := by (simp only [zA, zT, zD, zC, zN, ints_len, zR, fr_len, rw_len]; omega)) : (A ∧ B) ∧ K := ⟨⟨a, b⟩, k⟩
theorem holds_ok (w : Rw) (x : F) : Ctr Try.prog 35 [.agg (rwv w), .agg [i64 x.1, i64 x.2]] [] (fun r o => o = [] ∧ r = .bp (keeps w (fcmp x w.2.2))) := by
  refine Ctr.imp ?_
  refine fn_intro (E := env 0) tys_ok rfl rfl rfl Try.func35 (by kernel_rfl) rfl (by kernel_rfl) ?_
  have cC := rCompareF x w.2.2
  generalize fcmp x w.2.2 = c at *
  (repeat' (conv => whnf); first | refine aC (fun _ => ?_) (fun _ => ?_) | refine aS ?_ | refine aG ?_ | refine aD ?_ | refine aH ?_ | refine aP_P4 ?_ | refine aI ?_ | refine aJ ?_ | (refine aK [] cC ?_) | fail); all_goals try (conv => whnf)
  all_goals unfold keeps
  all_goals first
    | exact ⟨rfl, Imp.bl ⟨fun _ => by omega, fun _ => rfl⟩⟩
    | exact ⟨rfl, Imp.bl ⟨fun h => (by cases h), fun h => by omega⟩⟩
    | exact ⟨rfl, Imp.bp (by omega)⟩
theorem Feasible_ok (p : Pr) (hp : PL p) (x : List F) (hx : x.length ≤ 9223372036854775807) : Ctr Try.prog 23 [prv p, fsl x] [] (fun r o => o = [] ∧ r = .bp (Feas p x)) := by
  refine Ctr.imp ?_
  refine fn_intro (E := env 0) tys_ok rfl rfl rfl Try.func23 (by kernel_rfl) rfl (by kernel_rfl) ?_
  have hlc := fr_len p.c
  have hlx := fr_len x
  have hlr := rw_len p.r
  (repeat' (conv => whnf); first | (refine aC (fun _ => ?_) (fun _ => ?_) <;> try (exfalso; omega)) | refine aS ?_ | refine aG ?_ | refine aD ?_ | refine aH ?_ | refine aP_P4 ?_ | refine aI ?_ | refine aJ ?_ | (refine aK [] (Valid_ok p hp) ?_) | (refine aK [] (valid_ok x hx) ?_) | fail); all_goals try (conv => whnf)
  · exact ⟨rfl, Imp.bl ⟨fun h => (by cases h), fun h => absurd h.1 (by assumption)⟩⟩
  · exact ⟨rfl, Imp.bl ⟨fun h => (by cases h), fun h => by have := h.2.1; omega⟩⟩
  · exact ⟨rfl, Imp.bl ⟨fun h => (by cases h), fun h => absurd h.2.2.1 (by assumption)⟩⟩
  have hvp := Classical.not_not.1 ‹¬¬VP p›
  have hxl : x.length = p.c.length := by omega
  have hxv := Classical.not_not.1 ‹¬¬∀ (f : F), f ∈ x → VF f›
  refine LoopOb.mk (Y := Nat) (st := fun i => ⟨[(30, i64 i), (29, i64 (fr2 x).length), (28, fsl x), (4, .bl false), (2, .ptr 0 0), (0, prv p), (1, fsl x)], [.box [fsl p.c, .psl 4 (rws p.r)]]⟩)
    (inv := fun i => i ≤ x.length ∧ ∀ j < i, 0 ≤ (x.getD j (0, 1)).1) (fun i => x.length - i) 0 [0] ⟨by omega, by omega⟩ (by (exact aL)) ?_
  rintro i ⟨hi, hv⟩
  (repeat' (conv => whnf); first | refine aS ?_ | refine aG ?_ | refine aD ?_ | refine aH ?_ | refine aP_P4 ?_ | refine aI ?_ | refine aJ ?_ | fail); all_goals try (conv => whnf)
  refine CondOb.mk (fun hlt => ?_) (fun hlt => ?_)
  · (repeat' (conv => whnf); first | refine aC (fun _ => ?_) (fun _ => ?_) | refine aS ?_ | refine aG ?_ | refine aD ?_ | refine aH ?_ | refine aP_P4 ?_ | refine aI ?_ | refine aJ ?_ | refine ⟨i, _, rfl, fr_get (by omega), ?_⟩ | fail); all_goals try (conv => whnf)
    · exact ⟨rfl, Imp.bl ⟨fun h => (by cases h), fun h => by have : 0 ≤ (x.getD i (0, 1)).1 := all_at (P := fun f => 0 ≤ f.1) h.2.2.2.1 (by omega); omega⟩⟩
    · exact ⟨i + 1, [0], ⟨by omega, all_step (P := fun f => 0 ≤ f.1) hv (show 0 ≤ (x.getD i (0, 1)).1 by omega)⟩, by omega, by (exact aL)⟩
  have hx0 := all_to (P := fun f => 0 ≤ f.1) hv (by omega)
  (repeat' (conv => whnf); first | refine aC (fun _ => ?_) (fun _ => ?_) | refine aS ?_ | refine aG ?_ | refine aD ?_ | refine aH ?_ | refine aP_P4 ?_ | refine aI ?_ | refine aJ ?_ | fail); all_goals try (conv => whnf)
  refine LoopOb.mk (Y := Nat) (st := fun i => ⟨[(41, i64 i), (40, i64 (rws p.r).length), (39, .psl 4 (rws p.r)), (4, .bl false), (2, .ptr 0 0), (0, prv p), (1, fsl x)], [.box [fsl p.c, .psl 4 (rws p.r)]]⟩)
    (inv := fun i => i ≤ p.r.length ∧ ∀ j < i, rowOK (p.r.getD j rw0) x) (fun i => p.r.length - i) 0 [0] ⟨by omega, by omega⟩ (by (exact aL)) ?_
  clear hlt hv hi i
  rintro i ⟨hi, hv⟩
  (repeat' (conv => whnf); first | refine aS ?_ | refine aG ?_ | refine aD ?_ | refine aH ?_ | refine aP_P4 ?_ | refine aI ?_ | refine aJ ?_ | fail); all_goals try (conv => whnf)
  refine CondOb.mk (fun hlt => ?_) (fun hlt => ?_)
  · have hil : i < p.r.length := by omega
    have hgt := rw_get hil
    have hst : rowOK (p.r.getD i rw0) x → _ := fun h => rall_step (P := fun w => rowOK w x) hv h
    have hno : ¬ rowOK (p.r.getD i rw0) x → ¬ Feas p x := fun h k => h (rall_at (P := fun w => rowOK w x) k.2.2.2.2 hil)
    have hwl := rall_at hp.2.2 hil
    have hws := rall_at hvp.2.2.2.2 hil
    generalize p.r.getD i rw0 = w at *
    have cP := Product_ok w.1 x hwl
    have hrow : rowOK w x ↔ (prod w.1 x).2.2 = 0 ∧ keeps w (fcmp ((prod w.1 x).1, (prod w.1 x).2.1) w.2.2) := Iff.rfl
    have hp2 := hp.2.1
    generalize rowOK w x = Q at *
    generalize prod w.1 x = m at *
    have cC := fCompareF (m.1, m.2.1) w.2.2
    unfold keeps at hrow
    generalize fcmp (m.1, m.2.1) w.2.2 = c at *
    (repeat' (conv => whnf); first | (refine aC (fun _ => ?_) (fun _ => ?_) <;> try (exfalso; omega)) | refine aS ?_ | refine aG ?_ | refine aD ?_ | refine aH ?_ | refine aP_P4 ?_ | refine aI ?_ | refine aJ ?_ | refine ⟨i, _, rfl, hgt, ?_⟩ | (refine aK [] cP ?_) | (refine aK [] cC ?_) | fail); all_goals try (conv => whnf)
    all_goals first
      | exact ⟨rfl, Imp.bl ⟨fun h => (by cases h), fun h => absurd h (hno fun k => by have := hrow.1 k; omega)⟩⟩
      | exact ⟨rfl, Imp.bl ⟨fun h => (by cases h), fun h => absurd h (hno fun k => absurd (hrow.1 k).2 (by assumption))⟩⟩
      | exact ⟨i + 1, [0], ⟨by omega, hst (hrow.2 ⟨by omega, by have := hws.2.1; have := hws.2.2.1; omega⟩)⟩, by omega, by (exact aL)⟩
      | exact ⟨i + 1, [0], ⟨by omega, hst (hrow.2 ⟨by omega, Classical.not_not.1 (by assumption)⟩)⟩, by omega, by (exact aL)⟩
      | trace_state
  · (repeat' (conv => whnf); first | refine aC (fun _ => ?_) (fun _ => ?_) | refine aS ?_ | refine aG ?_ | refine aD ?_ | refine aH ?_ | refine aP_P4 ?_ | refine aI ?_ | refine aJ ?_ | fail); all_goals try (conv => whnf)
    exact ⟨rfl, Imp.bl ⟨fun _ => ⟨hvp, hxl, hxv, hx0, rall_to hv (by omega)⟩, fun _ => rfl⟩⟩
theorem rFeasible_ok (p : Pr) (hp : PL p) (x : List F) (hx : x.length ≤ 9223372036854775807) : Ctr Try.prog 15 [prv p, fsl x] [] (fun r o => o = [] ∧ r = .bp (Feas p x)) := by
  refine Ctr.imp ?_
  refine fn_intro (E := env 0) tys_ok rfl rfl rfl Try.func15 (by kernel_rfl) rfl (by kernel_rfl) ?_
  have hlc := fr_len p.c
  have hlx := fr_len x
  have hlr := rw_len p.r
  (repeat' (conv => whnf); first | (refine aC (fun _ => ?_) (fun _ => ?_) <;> try (exfalso; omega)) | refine aS ?_ | refine aG ?_ | refine aD ?_ | refine aH ?_ | refine aP_P4 ?_ | refine aI ?_ | refine aJ ?_ | refine aW (.qs [0, 1, 2, 3, 4, 5, 6, 7, 8] (.l 9 [] (.qs [10, 11] .nil) .no)) ?_ | (refine aK [] (rValidP_ok p hp) ?_) | (refine aK [] (all_ok x hx) ?_) | fail); all_goals try (conv => whnf)
  · exact ⟨rfl, Imp.bl ⟨fun h => (by cases h), fun h => absurd h.1 (by assumption)⟩⟩
  · exact ⟨rfl, Imp.bl ⟨fun h => (by cases h), fun h => by have := h.2.1; omega⟩⟩
  · exact ⟨rfl, Imp.bl ⟨fun h => (by cases h), fun h => absurd h.2.2.1 (by assumption)⟩⟩
  have hvp := Classical.not_not.1 ‹¬¬VP p›
  have hxl : x.length = p.c.length := by omega
  have hxv := Classical.not_not.1 ‹¬¬∀ (f : F), f ∈ x → VF f›
  refine LoopOb.mk (Y := Nat) (st := fun i => ⟨[(5, i64 i), (4, .bl false), (2, .ptr 0 0), (0, prv p), (1, fsl x)], [.box [fsl p.c, .psl 4 (rws p.r)]]⟩)
    (inv := fun i => i ≤ x.length ∧ ∀ j < i, 0 ≤ (x.getD j (0, 1)).1) (fun i => x.length - i) 0 [0] ⟨by omega, by omega⟩ (by (exact aL)) ?_
  rintro i ⟨hi, hv⟩
  (repeat' (conv => whnf); first | refine aS ?_ | refine aG ?_ | refine aD ?_ | refine aH ?_ | refine aP_P4 ?_ | refine aI ?_ | refine aJ ?_ | refine aW (.qs [0, 1, 2, 3, 4, 5, 6, 7, 8] (.l 9 [] (.qs [10, 11] .nil) .no)) ?_ | fail); all_goals try (conv => whnf)
  refine CondOb.mk (fun hlt => ?_) (fun hlt => ?_)
  · (repeat' (conv => whnf); first | refine aC (fun _ => ?_) (fun _ => ?_) | refine aS ?_ | refine aG ?_ | refine aD ?_ | refine aH ?_ | refine aP_P4 ?_ | refine aI ?_ | refine aJ ?_ | refine aW (.qs [0, 1, 2, 3, 4, 5, 6, 7, 8] (.l 9 [] (.qs [10, 11] .nil) .no)) ?_ | refine ⟨i, _, rfl, fr_get (by omega), ?_⟩ | fail); all_goals try (conv => whnf)
    · exact ⟨rfl, Imp.bl ⟨fun h => (by cases h), fun h => by have : 0 ≤ (x.getD i (0, 1)).1 := all_at (P := fun f => 0 ≤ f.1) h.2.2.2.1 (by omega); omega⟩⟩
    · exact ⟨i + 1, [0], ⟨by omega, all_step (P := fun f => 0 ≤ f.1) hv (show 0 ≤ (x.getD i (0, 1)).1 by omega)⟩, by omega, by (exact aL)⟩
  have hx0 := all_to (P := fun f => 0 ≤ f.1) hv (by omega)
  (repeat' (conv => whnf); first | refine aC (fun _ => ?_) (fun _ => ?_) | refine aS ?_ | refine aG ?_ | refine aD ?_ | refine aH ?_ | refine aP_P4 ?_ | refine aI ?_ | refine aJ ?_ | refine aW (.qs [0, 1, 2, 3, 4, 5, 6, 7, 8] (.l 9 [] (.qs [10, 11] .nil) .no)) ?_ | fail); all_goals try (conv => whnf)
  refine LoopOb.mk (Y := Nat) (st := fun i => ⟨[(6, i64 i), (4, .bl false), (2, .ptr 0 0), (0, prv p), (1, fsl x)], [.box [fsl p.c, .psl 4 (rws p.r)]]⟩)
    (inv := fun i => i ≤ p.r.length ∧ ∀ j < i, rowOK (p.r.getD j rw0) x) (fun i => p.r.length - i) 0 [0] ⟨by omega, by omega⟩ (by (exact aL)) ?_
  clear hlt hv hi i
  rintro i ⟨hi, hv⟩
  (repeat' (conv => whnf); first | refine aS ?_ | refine aG ?_ | refine aD ?_ | refine aH ?_ | refine aP_P4 ?_ | refine aI ?_ | refine aJ ?_ | refine aW (.qs [0, 1, 2, 3, 4, 5, 6, 7, 8] (.l 9 [] (.qs [10, 11] .nil) .no)) ?_ | fail); all_goals try (conv => whnf)
  refine CondOb.mk (fun hlt => ?_) (fun hlt => ?_)
  · have hil : i < p.r.length := by omega
    have hgt := rw_get hil
    have hst : rowOK (p.r.getD i rw0) x → _ := fun h => rall_step (P := fun w => rowOK w x) hv h
    have hno : ¬ rowOK (p.r.getD i rw0) x → ¬ Feas p x := fun h k => h (rall_at (P := fun w => rowOK w x) k.2.2.2.2 hil)
    have hwl := rall_at hp.2.2 hil
    have hws := rall_at hvp.2.2.2.2 hil
    generalize p.r.getD i rw0 = w at *
    have cP := rProduct_ok w.1 x hwl
    have hrow : rowOK w x ↔ (prod w.1 x).2.2 = 0 ∧ keeps w (fcmp ((prod w.1 x).1, (prod w.1 x).2.1) w.2.2) := Iff.rfl
    have hp2 := hp.2.1
    generalize rowOK w x = Q at *
    generalize prod w.1 x = m at *
    have cC := holds_ok w (m.1, m.2.1)
    generalize keeps w (fcmp (m.1, m.2.1) w.2.2) = c at *
    (repeat' (conv => whnf); first | (refine aC (fun _ => ?_) (fun _ => ?_) <;> try (exfalso; omega)) | refine aS ?_ | refine aG ?_ | refine aD ?_ | refine aH ?_ | refine aP_P4 ?_ | refine aI ?_ | refine aJ ?_ | refine aW (.qs [0, 1, 2, 3, 4, 5, 6, 7, 8] (.l 9 [] (.qs [10, 11] .nil) .no)) ?_ | refine ⟨i, _, rfl, hgt, ?_⟩ | (refine aK [] cP ?_) | (refine aK [] cC ?_) | fail); all_goals try (conv => whnf)
    all_goals first
      | exact ⟨rfl, Imp.bl ⟨fun h => (by cases h), fun h => absurd h (hno fun k => by have := hrow.1 k; omega)⟩⟩
      | exact ⟨rfl, Imp.bl ⟨fun h => (by cases h), fun h => absurd h (hno fun k => absurd (hrow.1 k).2 (by assumption))⟩⟩
      | exact ⟨i + 1, [0], ⟨by omega, hst (hrow.2 ⟨by omega, by have := hws.2.1; have := hws.2.2.1; omega⟩)⟩, by omega, by (exact aL)⟩
      | exact ⟨i + 1, [0], ⟨by omega, hst (hrow.2 ⟨by omega, Classical.not_not.1 (by assumption)⟩)⟩, by omega, by (exact aL)⟩
      | trace_state
  · (repeat' (conv => whnf); first | refine aC (fun _ => ?_) (fun _ => ?_) | refine aS ?_ | refine aG ?_ | refine aD ?_ | refine aH ?_ | refine aP_P4 ?_ | refine aI ?_ | refine aJ ?_ | refine aW (.qs [0, 1, 2, 3, 4, 5, 6, 7, 8] (.l 9 [] (.qs [10, 11] .nil) .no)) ?_ | fail); all_goals try (conv => whnf)
    exact ⟨rfl, Imp.bl ⟨fun _ => ⟨hvp, hxl, hxv, hx0, rall_to hv (by omega)⟩, fun _ => rfl⟩⟩
end Go.Proofs.Ytbdahmfjeklgbaa
