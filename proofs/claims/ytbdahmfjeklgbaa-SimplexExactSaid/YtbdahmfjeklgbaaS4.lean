/-
  A text of the proofs of this seat: lemmas that the statements' proofs use; it states nothing of the program by itself beyond the contracts that its theorems bear. Conditions: those that stand in each theorem. Its short name: S4.
-/
import Derived.Test.YtbdahmfjeklgbaaS3
import Derived.Test.YtbdahmfjeklgbaaP5
import Derived.Test.YtbdahmfjeklgbaaPl
set_option linter.unusedVariables false
set_option linter.unusedSimpArgs false
namespace Go.Proofs.Ytbdahmfjeklgbaa
open Go.Sx Go.Fq
set_option maxRecDepth 4000
set_option maxHeartbeats 2000000
theorem aP_S4 {A B K : Prop} (k : K) (a : A := by (simp only [zA, zT, zD, zC, zN, ints_len, zR, fr_len, rw_len]; omega)) (b : B := by (simp only [zA, zT, zD, zC, zN, ints_len, zR, fr_len, rw_len]; omega)) : (A ∧ B) ∧ K := ⟨⟨a, b⟩, k⟩
theorem rows_ok (p : Pr) (hp : VP p) (y : List F) : Ctr Try.prog 51 [prv p, fsl y] [] (fun r o => o = [] ∧ r = .bp ((∀ w ∈ p.r, (prod w.1 y).2.2 = 0) ∧ (prod p.c y).2.2 = 0)) := by
  refine Ctr.imp ?_
  refine fn_intro (E := env 0) tys_ok rfl rfl rfl Try.func51 (by kernel_rfl) rfl (by kernel_rfl) ?_
  have hlc := fr_len p.c
  have hlr := rw_len p.r
  have hpl := VP.pl hp
  have hp2 := hp.2.2.1
  (repeat' (conv => whnf); first | (refine aC (fun _ => ?_) (fun _ => ?_) <;> try (exfalso; omega)) | refine aS ?_ | refine aG ?_ | refine aD ?_ | refine aH ?_ | refine aP_S4 ?_ | refine aI ?_ | refine aJ ?_ | fail); all_goals try (conv => whnf)
  refine LoopOb.mk (Y := Nat) (st := fun i => ⟨[(5, i64 i), (2, .ptr 0 0), (0, prv p), (1, fsl y)], [.box [fsl p.c, .psl 4 (rws p.r)]]⟩)
    (inv := fun i => i ≤ p.r.length ∧ ∀ j < i, (prod (p.r.getD j rw0).1 y).2.2 = 0) (fun i => p.r.length - i) 0 [0] ⟨by omega, by omega⟩ (by (exact aL)) ?_
  rintro i ⟨hi, hv⟩
  (repeat' (conv => whnf); first | refine aS ?_ | refine aG ?_ | refine aD ?_ | refine aH ?_ | refine aP_S4 ?_ | refine aI ?_ | refine aJ ?_ | fail); all_goals try (conv => whnf)
  refine CondOb.mk (fun hlt => ?_) (fun hlt => ?_)
  · have hil : i < p.r.length := by omega
    have hgt := rw_get hil
    have hst : (prod (p.r.getD i rw0).1 y).2.2 = 0 → _ := fun h => rall_step (P := fun w => (prod w.1 y).2.2 = 0) hv h
    have hno : ¬ (prod (p.r.getD i rw0).1 y).2.2 = 0 → ¬ ∀ w ∈ p.r, (prod w.1 y).2.2 = 0 := fun h k => h (rall_at (P := fun w => (prod w.1 y).2.2 = 0) k hil)
    have hwl := rall_at hpl.2.2 hil
    generalize p.r.getD i rw0 = w at *
    have cP := rProduct_ok w.1 y hwl
    generalize prod w.1 y = m at *
    (repeat' (conv => whnf); first | (refine aC (fun _ => ?_) (fun _ => ?_) <;> try (exfalso; omega)) | refine aS ?_ | refine aG ?_ | refine aD ?_ | refine aH ?_ | refine aP_S4 ?_ | refine aI ?_ | refine aJ ?_ | refine ⟨i, _, rfl, hgt, ?_⟩ | (refine aK [] cP ?_) | fail); all_goals try (conv => whnf)
    · exact ⟨rfl, Imp.bl ⟨fun h => (by cases h), fun h => absurd h.1 (hno (by assumption))⟩⟩
    · exact ⟨i + 1, [0], ⟨by omega, hst (Classical.not_not.1 (by assumption))⟩, by omega, by (exact aL)⟩
  · have hall := rall_to (P := fun w => (prod w.1 y).2.2 = 0) hv (by omega)
    have cP := rProduct_ok p.c y (by have := hp.2.1; omega)
    generalize prod p.c y = m at *
    (repeat' (conv => whnf); first | (refine aC (fun _ => ?_) (fun _ => ?_) <;> try (exfalso; omega)) | refine aS ?_ | refine aG ?_ | refine aD ?_ | refine aH ?_ | refine aP_S4 ?_ | refine aI ?_ | refine aJ ?_ | (refine aK [] cP ?_) | fail); all_goals try (conv => whnf)
    exact ⟨rfl, Imp.bp ⟨fun h => ⟨hall, h⟩, fun h => h.2⟩⟩
theorem products_ok (p : Pr) (hp : VP p) (y : List F) (hy : y.length ≤ 9223372036854775807) : Ctr Try.prog 48 [prv p, fsl y] [] (fun r o => o = [] ∧ r = .bp ((prod (bds p) y).2.2 = 0 ∧ ∀ j < p.c.length, (prod (col p j) y).2.2 = 0)) := by
  refine Ctr.imp ?_
  refine fn_intro (E := env 0) tys_ok rfl rfl rfl Try.func48 (by kernel_rfl) rfl (by kernel_rfl) ?_
  have hlr := rw_len p.r
  have hp2 := hp.2.2.1
  (repeat' (conv => whnf); first | (refine aC (fun _ => ?_) (fun _ => ?_) <;> try (exfalso; omega)) | refine aS ?_ | refine aG ?_ | refine aD ?_ | refine aH ?_ | refine aP_S4 ?_ | refine aI ?_ | refine aJ ?_ | fail); all_goals try (conv => whnf)
  refine LoopOb.mk (Y := Nat) (st := fun i => ⟨[(6, i64 i), (5, .vec 1), (2, .ptr 0 0), (1, fsl y)], [.box [fsl p.c, .psl 4 (rws p.r)], .vec 2 (fr2 (pre p (fun w => w.2.2) i))]⟩)
    (inv := fun i => i ≤ p.r.length) (fun i => p.r.length - i) 0 [0, 1] (by omega) (by (exact aL)) ?_
  intro i hi
  (repeat' (conv => whnf); first | refine aS ?_ | refine aG ?_ | refine aD ?_ | refine aH ?_ | refine aP_S4 ?_ | refine aI ?_ | refine aJ ?_ | fail); all_goals try (conv => whnf)
  refine CondOb.mk (fun hlt => ?_) (fun hlt => ?_)
  · have hil : i < p.r.length := by omega
    have hgt := rw_get hil
    have hpr := pre_succ (g := fun w => w.2.2) hil
    have hpl := pre_len (p := p) (g := fun w => w.2.2) hi
    generalize p.r.getD i rw0 = w at *
    generalize pre p (fun w => w.2.2) i = l at *
    have hll := fr_len l
    (repeat' (conv => whnf); first | refine aC (fun _ => ?_) (fun _ => ?_) | refine aS ?_ | refine aG ?_ | refine aD ?_ | refine aH ?_ | refine aP_S4 ?_ | refine aI ?_ | refine aJ ?_ | refine ⟨i, _, rfl, hgt, ?_⟩ | fail); all_goals try (conv => whnf)
    exact ⟨i + 1, [0, 3], by omega, by omega, by rw [hpr, fr2_append]; (exact aL)⟩
  have hbe : pre p (fun w => w.2.2) i = bds p := pre_all (by omega)
  rw [hbe]
  clear hlt hi hbe
  have hbl : (bds p).length = p.r.length := bds_len
  have cB := rProduct_ok (bds p) y (by omega)
  generalize prod (bds p) y = z at *
  (repeat' (conv => whnf); first | refine aC (fun _ => ?_) (fun _ => ?_) | refine aS ?_ | refine aG ?_ | refine aD ?_ | refine aP_S4 ?_ | refine aI ?_ | refine aJ ?_ | fail); all_goals try (conv => whnf)
  refine .mk [.fz 1] ?_
  (repeat' (conv => whnf); first | refine aC (fun _ => ?_) (fun _ => ?_) | refine aS ?_ | refine aG ?_ | refine aD ?_ | refine aH ?_ | refine aP_S4 ?_ | refine aI ?_ | refine aJ ?_ | (refine aK [] cB ?_) | fail); all_goals try (conv => whnf)
  refine LoopOb.mk (Y := Nat) (st := fun j => ⟨[(9, i64 j), (8, i64 z.2.2), (2, .ptr 0 0), (1, fsl y)], [.box [fsl p.c, .psl 4 (rws p.r)]]⟩)
    (inv := fun j => j ≤ p.c.length ∧ ∀ k < j, (prod (col p k) y).2.2 = 0) (fun j => p.c.length - j) 0 [0] ⟨by omega, by omega⟩ (by (exact aL)) ?_
  have hlc := fr_len p.c
  have hp3 := hp.2.1
  rintro j ⟨hj, hv⟩
  (repeat' (conv => whnf); first | refine aS ?_ | refine aG ?_ | refine aD ?_ | refine aH ?_ | refine aP_S4 ?_ | refine aI ?_ | refine aJ ?_ | fail); all_goals try (conv => whnf)
  refine CondOb.mk (fun hlt => ?_) (fun hlt => ?_)
  · have hjl : j < p.c.length := by omega
    (repeat' (conv => whnf); first | refine aS ?_ | refine aG ?_ | refine aD ?_ | refine aH ?_ | refine aP_S4 ?_ | refine aI ?_ | refine aJ ?_ | fail); all_goals try (conv => whnf)
    refine LoopOb.mk (Y := Nat) (st := fun i => ⟨[(11, i64 i), (10, .vec 1), (9, i64 j), (8, i64 z.2.2), (2, .ptr 0 0), (1, fsl y)], [.box [fsl p.c, .psl 4 (rws p.r)], .vec 2 (fr2 (pre p (fun w => w.1.getD j (0, 1)) i))]⟩)
      (inv := fun i => i ≤ p.r.length) (fun i => p.r.length - i) 0 [0, 1] (by omega) (by (exact aL)) ?_
    intro i hi
    (repeat' (conv => whnf); first | refine aS ?_ | refine aG ?_ | refine aD ?_ | refine aH ?_ | refine aP_S4 ?_ | refine aI ?_ | refine aJ ?_ | fail); all_goals try (conv => whnf)
    refine CondOb.mk (fun hlt2 => ?_) (fun hlt2 => ?_)
    · have hil : i < p.r.length := by omega
      have hgt := rw_get hil
      have hpr := pre_succ (g := fun w => w.1.getD j (0, 1)) hil
      have hpl := pre_len (p := p) (g := fun w => w.1.getD j (0, 1)) hi
      have hws := rall_at hp.2.2.2.2 hil
      generalize p.r.getD i rw0 = w at *
      generalize pre p (fun w => w.1.getD j (0, 1)) i = l at *
      have hll := fr_len l
      (repeat' (conv => whnf); first | refine aC (fun _ => ?_) (fun _ => ?_) | refine aS ?_ | refine aG ?_ | refine aD ?_ | refine aH ?_ | refine aP_S4 ?_ | refine aI ?_ | refine aJ ?_ | refine ⟨i, _, rfl, hgt, ?_⟩ | refine ⟨j, _, rfl, fr_get (by have := hws.1; omega), ?_⟩ | fail); all_goals try (conv => whnf)
      exact ⟨i + 1, [0, 3], by omega, by omega, by rw [hpr, fr2_append]; (exact aL)⟩
    have hbe : pre p (fun w => w.1.getD j (0, 1)) i = col p j := pre_all (by omega)
    rw [hbe]
    clear hlt2 hbe
    have hcl : (col p j).length = p.r.length := by simp [col]
    have cB := rProduct_ok (col p j) y (by omega)
    have hst : (prod (col p j) y).2.2 = 0 → _ := fun h => lt_step (P := fun k => (prod (col p k) y).2.2 = 0) hv h
    have hno : ¬ (prod (col p j) y).2.2 = 0 → ¬ ∀ k < p.c.length, (prod (col p k) y).2.2 = 0 := fun h k => h (k j hjl)
    generalize prod (col p j) y = v at *
    (repeat' (conv => whnf); first | refine aC (fun _ => ?_) (fun _ => ?_) | refine aS ?_ | refine aG ?_ | refine aD ?_ | refine aP_S4 ?_ | refine aI ?_ | refine aJ ?_ | fail); all_goals try (conv => whnf)
    refine .mk [.fz 1] ?_
    (repeat' (conv => whnf); first | refine aC (fun _ => ?_) (fun _ => ?_) | refine aS ?_ | refine aG ?_ | refine aD ?_ | refine aH ?_ | refine aP_S4 ?_ | refine aI ?_ | refine aJ ?_ | (refine aK [] cB ?_) | fail); all_goals try (conv => whnf)
    · exact ⟨rfl, Imp.bl ⟨fun h => (by cases h), fun h => absurd h.2 (hno (by assumption))⟩⟩
    · exact ⟨j + 1, [0], ⟨by omega, hst (Classical.not_not.1 (by assumption))⟩, by omega, by (exact aL)⟩
  · (repeat' (conv => whnf); first | refine aC (fun _ => ?_) (fun _ => ?_) | refine aS ?_ | refine aG ?_ | refine aD ?_ | refine aH ?_ | refine aP_S4 ?_ | refine aI ?_ | refine aJ ?_ | fail); all_goals try (conv => whnf)
    exact ⟨rfl, Imp.bp ⟨fun h => ⟨h, fun k hk => hv k (by omega)⟩, fun h => h.1⟩⟩
end Go.Proofs.Ytbdahmfjeklgbaa
