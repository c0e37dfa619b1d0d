/-
  A text of the proofs of this seat: lemmas that the statements' proofs use; it states nothing of the program by itself beyond the contracts that its theorems bear. Conditions: those that stand in each theorem. Its short name: C1.
-/
import Derived.Test.YtabbnnfobjifiaaT1
import Derived.Test.YtabbnnfobjifiaaT2
import Derived.Test.YtabbnnfobjifiaaPl
import Derived.Test.YtabbnnfobjifiaaW3
set_option linter.unusedVariables false
set_option linter.unusedSimpArgs false
namespace Go.Proofs.Ytabbnnfobjifiaa
open Go.Sx Go.Pk Go.Cv Go.St
set_option maxRecDepth 8000
set_option maxHeartbeats 2000000
--APPX pks_len, Go.Cv.vals_len
theorem aP_C1 {A B K : Prop} (k : K) (a : A := by (simp only [zA, zT, zD, zC, zN, ints_len, zR, pks_len, Go.Cv.vals_len]; omega)) (b : B := by (simp only [zA, zT, zD, zC, zN, ints_len, zR, pks_len, Go.Cv.vals_len]; omega)) : (A ∧ B) ∧ K := ⟨⟨a, b⟩, k⟩
theorem end_ok (p : List Pk) (hv : Vld p) : Ctr Try.prog 77 [.psl 3 (pks p)] [] (fun r o => o = [] ∧ r = i64 (endN p)) := by
  refine fn_intro (E := env 0) tys_ok rfl rfl rfl Try.func77 (by kernel_rfl) rfl (by kernel_rfl) ?_
  have hpl := pks_len p
  have hp := hv.l
  have hb : ∀ h : 0 < p.length, ¬bad (p.getD (p.length - 1) pk0) := fun h => hv.g _ (by omega)
  have hg : ∀ h : 0 < p.length, (pks p)[p.length - 1]? = some (pkw (p.getD (p.length - 1) pk0)) := fun h => pks_get (by omega)
  have e0 : p.length = 0 → endN p = 0 := fun h => by unfold endN; rw [h]
  have e1 : 0 < p.length → endN p = ((p.getD (p.length - 1) pk0).t + 1).toNat := fun h => by
    obtain ⟨n, hn⟩ : ∃ n, p.length = n + 1 := ⟨p.length - 1, by omega⟩
    unfold endN; rw [hn]; rfl
  unfold bad at hb
  generalize p.getD (p.length - 1) pk0 = x at *
  (repeat' (conv => whnf); first | refine ⟨p.length - 1, _, by omega, hg (by omega), ?_⟩ | (refine aC (fun _ => ?_) (fun _ => ?_) <;> try (exfalso; omega)) | refine aS ?_ | refine aG ?_ | refine aD ?_ | refine aH ?_ | refine aP_C1 ?_ | refine aI ?_ | refine aJ ?_ | fail); all_goals try (conv => whnf)
  all_goals first
    | exact ⟨rfl, by rw [e0 (by omega)]; rfl⟩
    | (have h1 := e1 (by omega)
       have h2 := hb (by omega)
       exact ⟨rfl, by rw [h1, Int.toNat_of_nonneg (by omega)]; rfl⟩)
    | trace_state
theorem Table_ok (f : C3) (hf : VC f) (n : Nat) (hn : n ≤ 100000) : Ctr Try.prog 62 [crv f.1 f.2.1 f.2.2, i64 n] [] (fun r o => o = [] ∧ r = .psl 1 (ints (vals (cv f) n))) := by
  refine Ctr.imp ?_
  refine fn_intro (E := env 0) tys_ok rfl rfl rfl Try.func62 (by kernel_rfl) rfl (by kernel_rfl) ?_
  (repeat' (conv => whnf); first | refine AsgOb.nil ?_ | (refine aC (fun _ => ?_) (fun _ => ?_) <;> try (exfalso; omega)) | refine aS ?_ | refine aG ?_ | refine aD ?_ | refine aH ?_ | refine aP_C1 ?_ | refine aI ?_ | refine aJ ?_ | refine ⟨_, _, rfl, rfl, Nat.le_refl _, ⟨by (simp only; omega), by omega⟩, ?_⟩ | fail); all_goals try (conv => whnf)
  have hz := rowsAt_zero (cv f) n
  refine LoopOb.mk (Y := Nat) (st := fun t => ⟨[(11, i64 t), (10, i64 n), (5, .vec 1), (2, .ptr 0 0)], [.box [.psl 1 (ints f.1), i64 f.2.1, i64 f.2.2], .vec 1 (ints (rowsAt (cv f) t n))]⟩)
    (inv := fun t => t ≤ n) (fun t => n - t) 0 [0, 1] (by omega) (by dsimp only; rw [hz]; refine Le.mk (by kernel_rfl) ?_ ?_ <;> repeat' (first | exact True.intro | refine And.intro ?_ ?_ | exact Imp.refl _ | exact Imp.any _ | exact Imp.num (by simp) | exact rfl)) ?_
  intro t ht
  have hl := rowsAt_len (cv f) ht
  have hil := ints_len (rowsAt (cv f) t n)
  (repeat' (conv => whnf); first | refine aS ?_ | refine aG ?_ | refine aD ?_ | refine aH ?_ | refine aP_C1 ?_ | refine aI ?_ | refine aJ ?_ | fail); all_goals try (conv => whnf)
  refine CondOb.mk (fun hlt => ?_) (fun hlt => ?_)
  · have htn : t < n := by omega
    have hs := rowsAt_set (cv f) htn
    (repeat' (conv => whnf); first | refine ⟨_, ints_get (by omega), ?_⟩ | refine ⟨t, by omega, by omega, ?_⟩ | (refine aC (fun _ => ?_) (fun _ => ?_) <;> try (exfalso; omega)) | refine aS ?_ | refine aG ?_ | refine aD ?_ | refine aH ?_ | refine aP_C1 ?_ | refine aI ?_ | refine aJ ?_ | (refine aK [] (WAt_ok f.1 f.2.1 f.2.2 t (bd_of hf) (by omega) (by omega)) ?_) | fail); all_goals try (conv => whnf)
    exact ⟨t + 1, [0, 1], by omega, by omega, by rw [← hs]; (exact aL)⟩
  · have e : t = n := by omega
    subst e
    rw [rowsAt_full]
    (repeat' (conv => whnf); first | (refine aC (fun _ => ?_) (fun _ => ?_) <;> try (exfalso; omega)) | refine aS ?_ | refine aG ?_ | refine aD ?_ | refine aP_C1 ?_ | refine aI ?_ | refine aJ ?_ | fail); all_goals try (conv => whnf)
    refine .mk [.fz 1] ?_
    (repeat' (conv => whnf); first | (refine aC (fun _ => ?_) (fun _ => ?_) <;> try (exfalso; omega)) | refine aS ?_ | refine aG ?_ | refine aD ?_ | refine aH ?_ | refine aP_C1 ?_ | refine aI ?_ | refine aJ ?_ | fail); all_goals try (conv => whnf)
    exact ⟨rfl, Imp.refl _⟩
theorem sums_ok (p : List Pk) (hv : Vld p) (flow : Int) : Ctr Try.prog 55 [.psl 3 (pks p), i64 flow] [] (fun r o => o = [] ∧ r = .psl 1 (ints (vals (csm p flow) (endN p + 1)))) := by
  refine Ctr.imp ?_
  refine fn_intro (E := env 0) tys_ok rfl rfl rfl Try.func55 (by kernel_rfl) rfl (by kernel_rfl) ?_
  have hp := hv.l
  have hN : endN p ≤ 2001 := by
    unfold endN
    split
    · omega
    · rename_i i hi
      have := hv.g i (by omega)
      unfold bad at this; omega
  obtain ⟨n, hn⟩ : ∃ n, endN p + 1 = n := ⟨_, rfl⟩
  have hni : ((endN p : Nat) : Int) + 1 = n := by omega
  rw [hn]
  have hz := rowsAt_zero (csm p flow) n
  (repeat' (conv => whnf); first | refine AsgOb.nil ?_ | (refine aC (fun _ => ?_) (fun _ => ?_) <;> try (exfalso; omega)) | refine aS ?_ | refine aG ?_ | refine aD ?_ | refine aH ?_ | refine aP_C1 ?_ | refine aI ?_ | refine aJ ?_ | (refine aK [] (end_ok p hv) ?_) | fail); all_goals try (conv => whnf)
  rw [hni]
  (repeat' (conv => whnf); first | (refine aC (fun _ => ?_) (fun _ => ?_) <;> try (exfalso; omega)) | refine aS ?_ | refine aG ?_ | refine aD ?_ | refine aH ?_ | refine aP_C1 ?_ | refine aI ?_ | refine aJ ?_ | refine ⟨_, _, rfl, rfl, Nat.le_refl _, ⟨by (simp only; omega), by omega⟩, ?_⟩ | fail); all_goals try (conv => whnf)
  refine LoopOb.mk (Y := Nat) (st := fun t => ⟨[(13, i64 t), (12, i64 n), (5, .vec 0), (0, .psl 3 (pks p)), (1, i64 flow)], [.vec 1 (ints (rowsAt (csm p flow) t n))]⟩)
    (inv := fun t => t ≤ n) (fun t => n - t) 0 [0] (by omega) (by dsimp only; rw [hz]; refine Le.mk (by kernel_rfl) ?_ ?_ <;> repeat' (first | exact True.intro | refine And.intro ?_ ?_ | exact Imp.refl _ | exact Imp.any _ | exact Imp.num (by simp) | exact rfl)) ?_
  intro t ht
  have hl := rowsAt_len (csm p flow) ht
  have hil := ints_len (rowsAt (csm p flow) t n)
  (repeat' (conv => whnf); first | refine aS ?_ | refine aG ?_ | refine aD ?_ | refine aH ?_ | refine aP_C1 ?_ | refine aI ?_ | refine aJ ?_ | fail); all_goals try (conv => whnf)
  refine CondOb.mk (fun hlt => ?_) (fun hlt => ?_)
  · have htn : t < n := by omega
    have hs := rowsAt_set (csm p flow) htn
    (repeat' (conv => whnf); first | refine ⟨_, ints_get (by omega), ?_⟩ | refine ⟨t, by omega, by omega, ?_⟩ | (refine aC (fun _ => ?_) (fun _ => ?_) <;> try (exfalso; omega)) | refine aS ?_ | refine aG ?_ | refine aD ?_ | refine aH ?_ | refine aP_C1 ?_ | refine aI ?_ | refine aJ ?_ | (refine aK [] (Bytes_ok p (by omega) hv.sml flow t) ?_) | fail); all_goals try (conv => whnf)
    exact ⟨t + 1, [0], by omega, by omega, by rw [← hs]; (exact aL)⟩
  · have e : t = n := by omega
    subst e
    rw [rowsAt_full]
    (repeat' (conv => whnf); first | (refine aC (fun _ => ?_) (fun _ => ?_) <;> try (exfalso; omega)) | refine aS ?_ | refine aG ?_ | refine aD ?_ | refine aP_C1 ?_ | refine aI ?_ | refine aJ ?_ | fail); all_goals try (conv => whnf)
    refine .mk [.fz 0] ?_
    (repeat' (conv => whnf); first | (refine aC (fun _ => ?_) (fun _ => ?_) <;> try (exfalso; omega)) | refine aS ?_ | refine aG ?_ | refine aD ?_ | refine aH ?_ | refine aP_C1 ?_ | refine aI ?_ | refine aJ ?_ | fail); all_goals try (conv => whnf)
    exact ⟨rfl, Imp.refl _⟩
theorem cCheck_ok (p : List Pk) (hv : Vld p) (flow : Int) (hf : -1 ≤ flow) (f : C3) (vf : VC f) : Ctr Try.prog 42 [.psl 3 (pks p), i64 flow, crv f.1 f.2.1 f.2.2] [] (fun r o => o = [] ∧ r = i64 0) := by
  refine fn_intro (E := env 0) tys_ok rfl rfl rfl Try.func42 (by kernel_rfl) rfl (by kernel_rfl) ?_
  have hp := hv.l
  have cV := Validate_ok p (by omega)
  rw [vld_zero.2 hv] at cV
  have hV : ValidP f.1 f.2.1 f.2.2 := vf.valid
  (repeat' (conv => whnf); first | (refine aC (fun _ => ?_) (fun _ => ?_) <;> try (exfalso; omega)) | refine aS ?_ | refine aG ?_ | refine aD ?_ | refine aH ?_ | refine aP_C1 ?_ | refine aI ?_ | refine aJ ?_ | (refine aK [] cV ?_) | (refine aK [] (CValid_ok f.1 f.2.1 f.2.2 (by have := vf.n2; omega)) ?_) | fail); all_goals try (conv => whnf)
  all_goals first
    | exact ⟨rfl, rfl⟩
    | exact absurd hV (by assumption)
    | trace_state
end Go.Proofs.Ytabbnnfobjifiaa
