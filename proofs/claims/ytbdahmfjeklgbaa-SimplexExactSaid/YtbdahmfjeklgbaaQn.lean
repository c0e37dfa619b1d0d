/-
  A text of the proofs of this seat: lemmas that the statements' proofs use; it states nothing of the program by itself beyond the contracts that its theorems bear. Conditions: those that stand in each theorem. Its short name: Qn.
-/
import Derived.Test.YtbdahmfjeklgbaaP3
set_option linter.unusedVariables false
set_option linter.unusedSimpArgs false
namespace Go.Proofs.Ytbdahmfjeklgbaa
open Go.Sx Go.Fq
set_option maxRecDepth 4000
set_option maxHeartbeats 2000000
--APPX fr_len, rw_len
/-! small programmes, in the words of both sides -/
def wi (n : Int) (f : F) : Prop := f.2 = 1 ∧ -n ≤ f.1 ∧ f.1 ≤ n
def SmW (w : Rw) : Prop := (∀ f ∈ w.1, wi 10 f) ∧ wi 1000 w.2.2
def SmP (p : Pr) : Prop := VP p ∧ p.c.length ≤ 4 ∧ p.r.length ≤ 4 ∧ (∀ f ∈ p.c, wi 10 f) ∧ ∀ w ∈ p.r, SmW w
theorem aP_Qn {A B K : Prop} (k : K) (a : A := by (simp only [zA, zT, zD, zC, zN, ints_len, zR, fr_len, rw_len]; omega)) (b : B := by (simp only [zA, zT, zD, zC, zN, ints_len, zR, fr_len, rw_len]; omega)) : (A ∧ B) ∧ K := ⟨⟨a, b⟩, k⟩
theorem within_ok (l : List F) (hl : l.length ≤ 9223372036854775807) (n : Int) (hn : 0 ≤ n ∧ n ≤ 1000) : Ctr Try.prog 41 [fsl l, i64 n] [] (fun r o => o = [] ∧ r = .bp (∀ f ∈ l, wi n f)) := by
  refine Ctr.imp ?_
  refine fn_intro (E := env 0) tys_ok rfl rfl rfl Try.func41 (by kernel_rfl) rfl (by kernel_rfl) ?_
  (repeat' (conv => whnf); first | refine aC (fun _ => ?_) (fun _ => ?_) | refine aS ?_ | refine aG ?_ | refine aD ?_ | refine aH ?_ | refine aP_Qn ?_ | refine aI ?_ | refine aJ ?_ | fail); all_goals try (conv => whnf)
  refine LoopOb.mk (Y := Nat) (st := fun i => ⟨[(9, i64 i), (8, i64 (fr2 l).length), (7, fsl l), (4, .bl false), (1, i64 n)], []⟩)
    (inv := fun i => i ≤ l.length ∧ ∀ j < i, wi n (l.getD j (0, 1))) (fun i => l.length - i) 0 [] ⟨by omega, by omega⟩ (by (exact aL)) ?_
  rintro i ⟨hi, hv⟩
  have hln := fr_len l
  (repeat' (conv => whnf); first | refine aS ?_ | refine aG ?_ | refine aD ?_ | refine aH ?_ | refine aP_Qn ?_ | refine aI ?_ | refine aJ ?_ | fail); all_goals try (conv => whnf)
  refine CondOb.mk (fun hlt => ?_) (fun hlt => ?_)
  · have hil : i < l.length := by omega
    have hg := fr_get hil
    have hst : wi n (l.getD i (0, 1)) → _ := fun h => all_step hv h
    have hno : ¬wi n (l.getD i (0, 1)) → ¬∀ f ∈ l, wi n f := fun h k => h (all_at k hil)
    generalize l.getD i (0, 1) = x at *
    (repeat' (conv => whnf); first | (refine aC (fun _ => ?_) (fun _ => ?_) <;> try (exfalso; omega)) | refine aS ?_ | refine aG ?_ | refine aD ?_ | refine aH ?_ | refine aP_Qn ?_ | refine aI ?_ | refine aJ ?_ | refine ⟨i, _, rfl, hg, ?_⟩ | fail); all_goals try (conv => whnf)
    all_goals first
      | exact ⟨rfl, Imp.bl ⟨fun h => (by cases h), fun h => absurd h (hno fun k => by have := k.1; have := k.2.1; have := k.2.2; omega)⟩⟩
      | exact ⟨i + 1, [], ⟨by omega, hst ⟨by omega, by omega, by omega⟩⟩, by omega, by (exact aL)⟩
  · (repeat' (conv => whnf); first | (refine aC (fun _ => ?_) (fun _ => ?_) <;> try (exfalso; omega)) | refine aS ?_ | refine aG ?_ | refine aD ?_ | refine aH ?_ | refine aP_Qn ?_ | refine aI ?_ | refine aJ ?_ | fail); all_goals try (conv => whnf)
    exact ⟨rfl, Imp.bl ⟨fun _ => all_to hv (by omega), fun _ => rfl⟩⟩
theorem Small_ok (p : Pr) (hp : PL p) : Ctr Try.prog 21 [prv p] [] (fun r o => o = [] ∧ r = .bp (SmP p)) := by
  refine Ctr.imp ?_
  refine fn_intro (E := env 0) tys_ok rfl rfl rfl Try.func21 (by kernel_rfl) rfl (by kernel_rfl) ?_
  have cV := Valid_ok p hp
  obtain ⟨hp1, hp2, hp3⟩ := hp
  have hlc := fr_len p.c
  have hlr := rw_len p.r
  have hno1 : ¬VP p → ¬SmP p := fun h k => h k.1
  have hno2 : ¬(∀ f ∈ p.c, wi 10 f) → ¬SmP p := fun h k => h k.2.2.2.1
  have cW := within_ok p.c hp1 10 (by omega)
  have hyes : VP p → p.c.length ≤ 4 → p.r.length ≤ 4 → (∀ f ∈ p.c, wi 10 f) → (∀ w ∈ p.r, SmW w) → SmP p := fun a b c d e => ⟨a, b, c, d, e⟩
  have hnl : SmP p → p.c.length ≤ 4 ∧ p.r.length ≤ 4 ∧ ∀ w ∈ p.r, SmW w := fun h => ⟨h.2.1, h.2.2.1, h.2.2.2.2⟩
  generalize SmP p = Q at *
  generalize (∀ f ∈ p.c, wi 10 f) = W at *
  (repeat' (conv => whnf); first | (refine aC (fun _ => ?_) (fun _ => ?_) <;> try (exfalso; omega)) | refine aS ?_ | refine aG ?_ | refine aD ?_ | refine aH ?_ | refine aP_Qn ?_ | refine aI ?_ | refine aJ ?_ | (refine aK [] cV ?_) | (refine aK [] cW ?_) | fail); all_goals try (conv => whnf)
  · exact ⟨rfl, Imp.bl ⟨fun h => (by cases h), fun h => absurd h (hno1 (by assumption))⟩⟩
  · exact ⟨rfl, Imp.bl ⟨fun h => (by cases h), fun h => by have := hnl h; omega⟩⟩
  · exact ⟨rfl, Imp.bl ⟨fun h => (by cases h), fun h => by have := hnl h; omega⟩⟩
  · exact ⟨rfl, Imp.bl ⟨fun h => (by cases h), fun h => absurd h (hno2 (by assumption))⟩⟩
  have hvp : VP p := Classical.not_not.1 (by assumption)
  have hw : W := Classical.not_not.1 (by assumption)
  refine LoopOb.mk (Y := Nat) (st := fun i => ⟨[(29, i64 i), (28, i64 (rws p.r).length), (27, .psl 4 (rws p.r)), (2, .bl false), (1, .ptr 0 0)], [.box [fsl p.c, .psl 4 (rws p.r)]]⟩)
    (inv := fun i => i ≤ p.r.length ∧ ∀ j < i, SmW (p.r.getD j rw0)) (fun i => p.r.length - i) 0 [0] ⟨by omega, by omega⟩ (by (exact aL)) ?_
  rintro i ⟨hi, hv⟩
  (repeat' (conv => whnf); first | refine aS ?_ | refine aG ?_ | refine aD ?_ | refine aH ?_ | refine aP_Qn ?_ | refine aI ?_ | refine aJ ?_ | fail); all_goals try (conv => whnf)
  refine CondOb.mk (fun hlt => ?_) (fun hlt => ?_)
  · have hil : i < p.r.length := by omega
    have hgt := rw_get hil
    have hst : SmW (p.r.getD i rw0) → _ := fun h => rall_step hv h
    have hno : ¬SmW (p.r.getD i rw0) → ¬Q := fun h k => h (rall_at (hnl k).2.2 hil)
    have hwl := rall_at hp3 hil
    generalize p.r.getD i rw0 = w at *
    have c1 := within_ok w.1 hwl 10 (by omega)
    have c2 := within_ok [w.2.2] (by simp) 1000 (by omega)
    (repeat' (conv => whnf); first | refine LitOb.ful ?_ | (refine aC (fun _ => ?_) (fun _ => ?_) <;> try (exfalso; omega)) | refine aS ?_ | refine aG ?_ | refine aD ?_ | refine aH ?_ | refine aP_Qn ?_ | refine aI ?_ | refine aJ ?_ | refine ⟨i, _, rfl, hgt, ?_⟩ | (refine aK [] c1 ?_) | (refine CallOb.mk [] c2 rfl ⟨Imp.fulp rfl, Imp.refl _, trivial⟩ rfl rfl ?_; rintro _ _ ⟨rfl, rfl⟩) | fail); all_goals try (conv => whnf)
    · exact ⟨rfl, Imp.bl ⟨fun h => (by cases h), fun h => absurd h (hno fun k => absurd k.1 (by assumption))⟩⟩
    · exact ⟨rfl, Imp.bl ⟨fun h => (by cases h), fun h => absurd h (hno fun k => absurd (show ∀ f ∈ [w.2.2], wi 1000 f by simpa using k.2) (by assumption))⟩⟩
    · have h2 : ∀ f ∈ [w.2.2], wi 1000 f := Classical.not_not.1 (by assumption)
      exact ⟨i + 1, [0], ⟨by omega, hst ⟨Classical.not_not.1 (by assumption), by simpa using h2⟩⟩, by omega, by (exact aL)⟩
  · (repeat' (conv => whnf); first | (refine aC (fun _ => ?_) (fun _ => ?_) <;> try (exfalso; omega)) | refine aS ?_ | refine aG ?_ | refine aD ?_ | refine aH ?_ | refine aP_Qn ?_ | refine aI ?_ | refine aJ ?_ | fail); all_goals try (conv => whnf)
    exact ⟨rfl, Imp.bl ⟨fun _ => hyes hvp (by omega) (by omega) hw (rall_to hv (by omega)), fun _ => rfl⟩⟩
theorem rwithin_ok (f : F) (n : Int) (hn : 0 ≤ n ∧ n ≤ 1000) : Ctr Try.prog 42 [.agg [i64 f.1, i64 f.2], i64 n] [] (fun r o => o = [] ∧ r = .bp (wi n f)) := by
  refine Ctr.imp ?_
  refine fn_intro (E := env 0) tys_ok rfl rfl rfl Try.func42 (by kernel_rfl) rfl (by kernel_rfl) ?_
  (repeat' (conv => whnf); first | (refine aC (fun _ => ?_) (fun _ => ?_) <;> try (exfalso; omega)) | refine aS ?_ | refine aG ?_ | refine aD ?_ | refine aH ?_ | refine aP_Qn ?_ | refine aI ?_ | refine aJ ?_ | fail); all_goals try (conv => whnf)
  all_goals first
    | exact ⟨rfl, Imp.bl ⟨fun h => (by cases h), fun h => by obtain ⟨a, b, c⟩ := h; omega⟩⟩
    | exact ⟨rfl, Imp.bp ⟨fun h => ⟨by omega, by omega, by omega⟩, fun h => h.2.2⟩⟩
    | trace_state
theorem rSmall_ok (p : Pr) (hp : PL p) : Ctr Try.prog 22 [prv p] [] (fun r o => o = [] ∧ r = .bp (SmP p)) := by
  refine Ctr.imp ?_
  refine fn_intro (E := env 0) tys_ok rfl rfl rfl Try.func22 (by kernel_rfl) rfl (by kernel_rfl) ?_
  have cV := rValidP_ok p hp
  obtain ⟨hp1, hp2, hp3⟩ := hp
  have hlc := fr_len p.c
  have hlr := rw_len p.r
  have hno1 : ¬VP p → ¬SmP p := fun h k => h k.1
  have hyes : VP p → p.c.length ≤ 4 → p.r.length ≤ 4 → (∀ f ∈ p.c, wi 10 f) → (∀ w ∈ p.r, SmW w) → SmP p := fun a b c d e => ⟨a, b, c, d, e⟩
  have hnl : SmP p → p.c.length ≤ 4 ∧ p.r.length ≤ 4 ∧ (∀ f ∈ p.c, wi 10 f) ∧ ∀ w ∈ p.r, SmW w := fun h => ⟨h.2.1, h.2.2.1, h.2.2.2.1, h.2.2.2.2⟩
  generalize SmP p = Q at *
  (repeat' (conv => whnf); first | (refine aC (fun _ => ?_) (fun _ => ?_) <;> try (exfalso; omega)) | refine aS ?_ | refine aG ?_ | refine aD ?_ | refine aH ?_ | refine aP_Qn ?_ | refine aI ?_ | refine aJ ?_ | (refine aK [] cV ?_) | fail); all_goals try (conv => whnf)
  · exact ⟨rfl, Imp.bl ⟨fun h => (by cases h), fun h => absurd h (hno1 (by assumption))⟩⟩
  · exact ⟨rfl, Imp.bl ⟨fun h => (by cases h), fun h => by have := hnl h; omega⟩⟩
  · exact ⟨rfl, Imp.bl ⟨fun h => (by cases h), fun h => by have := hnl h; omega⟩⟩
  have hvp : VP p := Classical.not_not.1 (by assumption)
  refine LoopOb.mk (Y := Nat) (st := fun i => ⟨[(3, i64 i), (2, .bl false), (1, .ptr 0 0)], [.box [fsl p.c, .psl 4 (rws p.r)]]⟩)
    (inv := fun i => i ≤ p.c.length ∧ ∀ j < i, wi 10 (p.c.getD j (0, 1))) (fun i => p.c.length - i) 0 [0] ⟨by omega, by omega⟩ (by (exact aL)) ?_
  rintro i ⟨hi, hv⟩
  (repeat' (conv => whnf); first | refine aS ?_ | refine aG ?_ | refine aD ?_ | refine aH ?_ | refine aP_Qn ?_ | refine aI ?_ | refine aJ ?_ | fail); all_goals try (conv => whnf)
  refine CondOb.mk (fun hlt => ?_) (fun hlt => ?_)
  · have hil : i < p.c.length := by omega
    have hg := fr_get hil
    have hst : wi 10 (p.c.getD i (0, 1)) → _ := fun h => all_step hv h
    have hno : ¬wi 10 (p.c.getD i (0, 1)) → ¬Q := fun h k => h (all_at (hnl k).2.2.1 hil)
    generalize p.c.getD i (0, 1) = x at *
    (repeat' (conv => whnf); first | (refine aC (fun _ => ?_) (fun _ => ?_) <;> try (exfalso; omega)) | refine aS ?_ | refine aG ?_ | refine aD ?_ | refine aH ?_ | refine aP_Qn ?_ | refine aI ?_ | refine aJ ?_ | refine ⟨i, _, rfl, hg, ?_⟩ | (refine aK [] (rwithin_ok x 10 (by omega)) ?_) | fail); all_goals try (conv => whnf)
    · exact ⟨rfl, Imp.bl ⟨fun h => (by cases h), fun h => absurd h (hno (by assumption))⟩⟩
    · exact ⟨i + 1, [0], ⟨by omega, hst (Classical.not_not.1 (by assumption))⟩, by omega, by (exact aL)⟩
  have hw : ∀ f ∈ p.c, wi 10 f := all_to hv (by omega)
  clear hv hlt
  (repeat' (conv => whnf); first | (refine aC (fun _ => ?_) (fun _ => ?_) <;> try (exfalso; omega)) | refine aS ?_ | refine aG ?_ | refine aD ?_ | refine aH ?_ | refine aP_Qn ?_ | refine aI ?_ | refine aJ ?_ | fail); all_goals try (conv => whnf)
  refine LoopOb.mk (Y := Nat) (st := fun i => ⟨[(4, i64 i), (2, .bl false), (1, .ptr 0 0)], [.box [fsl p.c, .psl 4 (rws p.r)]]⟩)
    (inv := fun i => i ≤ p.r.length ∧ ∀ j < i, SmW (p.r.getD j rw0)) (fun i => p.r.length - i) 0 [0] ⟨by omega, by omega⟩ (by (exact aL)) ?_
  rintro i ⟨hi, hv⟩
  (repeat' (conv => whnf); first | refine aS ?_ | refine aG ?_ | refine aD ?_ | refine aH ?_ | refine aP_Qn ?_ | refine aI ?_ | refine aJ ?_ | fail); all_goals try (conv => whnf)
  refine CondOb.mk (fun hlt => ?_) (fun hlt => ?_)
  · have hil : i < p.r.length := by omega
    have hgt := rw_get hil
    have hst : SmW (p.r.getD i rw0) → _ := fun h => rall_step hv h
    have hno : ¬SmW (p.r.getD i rw0) → ¬Q := fun h k => h (rall_at (hnl k).2.2.2 hil)
    have hwl := rall_at hp3 hil
    generalize p.r.getD i rw0 = w at *
    have hlw := fr_len w.1
    (repeat' (conv => whnf); first | refine aS ?_ | refine aG ?_ | refine aD ?_ | refine aH ?_ | refine aP_Qn ?_ | refine aI ?_ | refine aJ ?_ | fail); all_goals try (conv => whnf)
    refine LoopOb.mk (Y := Nat) (st := fun k => ⟨[(5, i64 k), (4, i64 i), (2, .bl false), (1, .ptr 0 0)], [.box [fsl p.c, .psl 4 (rws p.r)]]⟩)
      (inv := fun k => k ≤ w.1.length ∧ ∀ j < k, wi 10 (w.1.getD j (0, 1))) (fun k => w.1.length - k) 0 [0] ⟨by omega, by omega⟩ (by (exact aL)) ?_
    rintro k ⟨hk, hu⟩
    (repeat' (conv => whnf); first | refine aS ?_ | refine aG ?_ | refine aD ?_ | refine aH ?_ | refine aP_Qn ?_ | refine aI ?_ | refine aJ ?_ | refine ⟨i, _, rfl, hgt, ?_⟩ | fail); all_goals try (conv => whnf)
    refine CondOb.mk (fun hlt2 => ?_) (fun hlt2 => ?_)
    · have hkl : k < w.1.length := by omega
      have hg := fr_get hkl
      have hst2 : wi 10 (w.1.getD k (0, 1)) → _ := fun h => all_step hu h
      have hno2 : ¬wi 10 (w.1.getD k (0, 1)) → ¬Q := fun h => hno fun q => h (all_at q.1 hkl)
      generalize w.1.getD k (0, 1) = x at *
      (repeat' (conv => whnf); first | (refine aC (fun _ => ?_) (fun _ => ?_) <;> try (exfalso; omega)) | refine aS ?_ | refine aG ?_ | refine aD ?_ | refine aH ?_ | refine aP_Qn ?_ | refine aI ?_ | refine aJ ?_ | refine ⟨i, _, rfl, hgt, ?_⟩ | refine ⟨k, _, rfl, hg, ?_⟩ | (refine aK [] (rwithin_ok x 10 (by omega)) ?_) | fail); all_goals try (conv => whnf)
      · exact ⟨rfl, Imp.bl ⟨fun h => (by cases h), fun h => absurd h (hno2 (by assumption))⟩⟩
      · exact ⟨k + 1, [0], ⟨by omega, hst2 (Classical.not_not.1 (by assumption))⟩, by omega, by (exact aL)⟩
    have hu : ∀ f ∈ w.1, wi 10 f := all_to hu (by omega)
    (repeat' (conv => whnf); first | (refine aC (fun _ => ?_) (fun _ => ?_) <;> try (exfalso; omega)) | refine aS ?_ | refine aG ?_ | refine aD ?_ | refine aH ?_ | refine aP_Qn ?_ | refine aI ?_ | refine aJ ?_ | refine ⟨i, _, rfl, hgt, ?_⟩ | (refine aK [] (rwithin_ok w.2.2 1000 (by omega)) ?_) | fail); all_goals try (conv => whnf)
    · exact ⟨rfl, Imp.bl ⟨fun h => (by cases h), fun h => absurd h (hno fun q => absurd q.2 (by assumption))⟩⟩
    · exact ⟨i + 1, [0], ⟨by omega, hst ⟨hu, Classical.not_not.1 (by assumption)⟩⟩, by omega, by (exact aL)⟩
  · (repeat' (conv => whnf); first | (refine aC (fun _ => ?_) (fun _ => ?_) <;> try (exfalso; omega)) | refine aS ?_ | refine aG ?_ | refine aD ?_ | refine aH ?_ | refine aP_Qn ?_ | refine aI ?_ | refine aJ ?_ | fail); all_goals try (conv => whnf)
    exact ⟨rfl, Imp.bl ⟨fun _ => hyes hvp (by omega) (by omega) hw (rall_to hv (by omega)), fun _ => rfl⟩⟩
end Go.Proofs.Ytbdahmfjeklgbaa
