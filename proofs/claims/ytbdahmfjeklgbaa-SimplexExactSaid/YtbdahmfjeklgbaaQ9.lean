/-
  A text of the proofs of this seat: lemmas that the statements' proofs use; it states nothing of the program by itself beyond the contracts that its theorems bear. Conditions: those that stand in each theorem. Its short name: Q9.
-/
import Derived.Test.YtbdahmfjeklgbaaQ8
set_option linter.unusedVariables false
set_option linter.unusedSimpArgs false
namespace Go.Proofs.Ytbdahmfjeklgbaa
open Go.Sx Go.Fq Go.Dt
set_option maxRecDepth 4000
set_option maxHeartbeats 2000000
--APPX fr_len, rw_len, mts_len, vcs_len
/- all reckonings of a number of a row fit -/
structure DuP (f : Nat → Nat → Int) (d : Int) (n m : Nat) (own cost : Int) (tu sl : Nat → Int) (i : Nat) : Prop where
  h1 : B62 (own * d)
  h2 : B62 (own * d - f m (n + m + i))
  h3 : B62 ((own * d - f m (n + m + i)) * tu i)
  h4 : B62 ((own * d - f m (n + m + i)) * tu i * sl i)
  h5 : B62 (d * cost)
  h6 : d * cost ≠ 0
  h7 : (fnew ((own * d - f m (n + m + i)) * tu i * sl i) (d * cost)).2.2 = 0
theorem du_step {f : Nat → Nat → Int} {d : Int} {n m : Nat} {own cost : Int} {tu sl : Nat → Int} {i : Nat} {q q1 q2 q3 q4 q5 q6 : Prop} {a y v v2 dd : Int} {x : F}
    (z1 : Cal q q1 (own * d) a) (z2 : Cal q1 q2 (a - f m (n + m + i)) y) (z3 : Cal q2 q3 (y * tu i) v) (z4 : Cal q3 q4 (v * sl i) v2) (z5 : Cal q4 q5 (d * cost) dd) (z6 : FrS v2 dd q5 q6 x) :
    (¬q6 → ¬q) ∧ (DuP f d n m own cost tu sl i → q6 → q) := by
  refine ⟨fun h => ?_, fun D h => ?_⟩
  · exact (z1.ex (z2.ex (z3.ex (z4.ex (z5.ex (z6.ex h).1).1).1).1).1).1
  · refine Classical.byContradiction fun hq => ?_
    have k1 : ¬q1 := fun e => hq (z1.fit D.h1 e)
    have e1 := (z1.ex k1).2
    subst e1
    have k2 : ¬q2 := fun e => k1 (z2.fit D.h2 e)
    have e2 := (z2.ex k2).2
    subst e2
    have k3 : ¬q3 := fun e => k2 (z3.fit D.h3 e)
    have e3 := (z3.ex k3).2
    subst e3
    have k4 : ¬q4 := fun e => k3 (z4.fit D.h4 e)
    have e4 := (z4.ex k4).2
    subst e4
    have k5 : ¬q5 := fun e => k4 (z5.fit D.h5 e)
    have e5 := (z5.ex k5).2
    subst e5
    exact k5 (z6.fit D.h6 D.h7 h)
theorem aP_Q9 {A B K : Prop} (k : K) (a : A := by (simp only [zA, zT, zD, zC, zN, ints_len, zR, fr_len, rw_len, mts_len, vcs_len]; omega)) (b : B := by (simp only [zA, zT, zD, zC, zN, ints_len, zR, fr_len, rw_len, mts_len, vcs_len]; omega)) : (A ∧ B) ∧ K := ⟨⟨a, b⟩, k⟩
theorem sdual_ok (n m w : Nat) (f : Nat → Nat → Int) (bs tu sl : Nat → Int) (d co : Int) (ov : Prop) (own cost : Int) (hm : m ≤ 100) (hn : n ≤ 100) (hw : w = n + 2 * m + 1) (ho : B62 own) (hc : B62 cost) (hd : B62 d) (hf : ∀ b < w, B62 (f m b)) (ht : ∀ i < m, B62 (tu i)) (hs : ∀ i < m, B62 (sl i)) :
    Ctr Try.prog 61 [.ptr 0 0, i64 own, i64 cost] (tab (m + 1) m w n m f bs tu sl d co ov)
      (fun r o => ∃ x : Prop × List F, ((¬x.1 → ¬ov) ∧ ((∀ i < m, DuP f d n m own cost tu sl i) → x.1 → ov)) ∧ o = tab (m + 1) m w n m f bs tu sl d co x.1 ∧ r = fsl x.2) := by
  refine Ctr.impO ?_
  refine fn_intro (E := env 5) tys_ok rfl rfl rfl Try.func61 (by kernel_rfl) rfl (by kernel_rfl) ?_
  have hml := mts_len (m + 1) w f
  (repeat' (conv => whnf); first | (refine aC (fun _ => ?_) (fun _ => ?_) <;> try (exfalso; omega)) | refine aS ?_ | refine aG ?_ | refine aD ?_ | refine aH ?_ | refine aP_Q9 ?_ | refine aI ?_ | refine aJ ?_ | refine aW (.qs [0, 1, 2, 3, 4, 5, 6, 8, 9, 10, 11, 12, 13, 14, 15, 16, 17, 18, 19, 20, 21, 22, 23, 24, 25, 26, 27, 28, 29, 30] (.l 7 [30, 25, 21, 17, 15, 11] (.l 31 [] (.qs [32] .nil) .no) .no)) ?_ | refine aW (.qs [0, 1, 2, 3, 4, 5, 6, 7, 8, 9, 10, 11, 13, 14, 15, 16, 17, 18, 19, 21, 22, 23, 24, 25, 26] (.l 12 [25, 19, 16] (.l 20 [25] (.l 27 [] (.l 28 [] (.l 29 [] (.l 30 [] (.qs [31] .nil) .no) .no) .no) .no) .no) .no)) ?_ | fail); all_goals try (conv => whnf)
  refine LoopOb.mk (Y := Nat × Prop × List F) (st := fun y => ⟨[(8, i64 y.1), (7, .vec 5), (0, .ptr 0 0), (1, i64 own), (2, i64 cost)], tab (m + 1) m w n m f bs tu sl d co y.2.1 ++ [.vec 2 (fr2 y.2.2)]⟩)
    (inv := fun y => y.1 ≤ m ∧ y.2.2.length = y.1 ∧ (¬y.2.1 → ¬ov) ∧ ((∀ i < m, DuP f d n m own cost tu sl i) → y.2.1 → ov)) (fun y => m - y.1) (0, ov, []) [0, 1, 2, 3, 4, 6] ⟨by simp, rfl, fun h => h, fun _ h => h⟩ (by (exact aL)) ?_
  rintro ⟨i, q, l⟩ ⟨hi, hl, hq1, hq2⟩
  dsimp only at hi hl hq1 hq2 ⊢
  have hll := fr_len l
  (repeat' (conv => whnf); first | refine aS ?_ | refine aG ?_ | refine aD ?_ | refine aH ?_ | refine aP_Q9 ?_ | refine aI ?_ | refine aJ ?_ | refine aW (.qs [0, 1, 2, 3, 4, 5, 6, 8, 9, 10, 11, 12, 13, 14, 15, 16, 17, 18, 19, 20, 21, 22, 23, 24, 25, 26, 27, 28, 29, 30] (.l 7 [30, 25, 21, 17, 15, 11] (.l 31 [] (.qs [32] .nil) .no) .no)) ?_ | refine aW (.qs [0, 1, 2, 3, 4, 5, 6, 7, 8, 9, 10, 11, 13, 14, 15, 16, 17, 18, 19, 21, 22, 23, 24, 25, 26] (.l 12 [25, 19, 16] (.l 20 [25] (.l 27 [] (.l 28 [] (.l 29 [] (.l 30 [] (.qs [31] .nil) .no) .no) .no) .no) .no) .no)) ?_ | fail); all_goals try (conv => whnf)
  refine CondOb.mk (fun hlt => ?_) (fun hlt => ?_)
  · have him : i < m := by omega
    have bf := hf (n + m + i) (by omega)
    have bt := ht i him
    have bs' := hs i him
    have cM1 := mul_ok (m + 1) m w n m f bs tu sl d co q own d ho hd
    (repeat' (conv => whnf); first | refine DrawOb.re [] (.qs [0, 1, 2, 3, 4, 5, 6, 8, 9, 10, 11, 12, 13, 14, 15, 16, 17, 18, 19, 20, 21, 22, 23, 24, 25, 26, 27, 28, 29, 30] (.l 7 [30, 25, 21, 17, 15, 11] (.l 31 [] (.qs [32] .nil) .no) .no)) (by decide +kernel) ?_ | (refine aC (fun _ => ?_) (fun _ => ?_) <;> try (exfalso; omega)) | refine aS ?_ | refine aG ?_ | refine aD ?_ | refine aH ?_ | refine aP_Q9 ?_ | refine aI ?_ | refine aJ ?_ | refine aW (.qs [0, 1, 2, 3, 4, 5, 6, 8, 9, 10, 11, 12, 13, 14, 15, 16, 17, 18, 19, 20, 21, 22, 23, 24, 25, 26, 27, 28, 29, 30] (.l 7 [30, 25, 21, 17, 15, 11] (.l 31 [] (.qs [32] .nil) .no) .no)) ?_ | refine aW (.qs [0, 1, 2, 3, 4, 5, 6, 7, 8, 9, 10, 11, 13, 14, 15, 16, 17, 18, 19, 21, 22, 23, 24, 25, 26] (.l 12 [25, 19, 16] (.l 20 [25] (.l 27 [] (.l 28 [] (.l 29 [] (.l 30 [] (.qs [31] .nil) .no) .no) .no) .no) .no) .no)) ?_ | refine And.intro ⟨rfl, rfl⟩ ?_ | refine ⟨_, rfl, (by simp only [mts_len, vcs_len]; omega), ?_⟩ | refine And.intro (by simp only [mts_len, vcs_len]; omega) ?_ | refine ⟨_, _, rfl, mts_get (by omega), (by simp only [vcs_len]; omega), ?_⟩ | refine ⟨_, _, mts_get (by omega), vcs_get (by omega), ?_⟩ | refine ⟨_, mts_get (by omega), ?_⟩ | refine ⟨_, vcs_get (by omega), ?_⟩ | refine ⟨_, _, rfl, vcs_get (by omega), ?_⟩ | refine ⟨n + m + i, _, (by omega), mts_get (by omega), (by simp only [vcs_len]; omega), ?_⟩ | fail); all_goals try (conv => whnf)
    refine CallOb.mk [0, 1, 2, 3, 4] cM1 rfl (ImpL.refl _) rfl rfl ?_
    rintro _ _ ⟨⟨p1, a⟩, z1, rfl, rfl⟩
    dsimp only at z1 ⊢
    have cS := sub_ok (m + 1) m w n m f bs tu sl d co p1 a (f m (n + m + i)) z1.bd bf
    (repeat' (conv => whnf); first | (refine aC (fun _ => ?_) (fun _ => ?_) <;> try (exfalso; omega)) | refine aS ?_ | refine aG ?_ | refine aD ?_ | refine aH ?_ | refine aP_Q9 ?_ | refine aI ?_ | refine aJ ?_ | refine aW (.qs [0, 1, 2, 3, 4, 5, 6, 8, 9, 10, 11, 12, 13, 14, 15, 16, 17, 18, 19, 20, 21, 22, 23, 24, 25, 26, 27, 28, 29, 30] (.l 7 [30, 25, 21, 17, 15, 11] (.l 31 [] (.qs [32] .nil) .no) .no)) ?_ | refine aW (.qs [0, 1, 2, 3, 4, 5, 6, 7, 8, 9, 10, 11, 13, 14, 15, 16, 17, 18, 19, 21, 22, 23, 24, 25, 26] (.l 12 [25, 19, 16] (.l 20 [25] (.l 27 [] (.l 28 [] (.l 29 [] (.l 30 [] (.qs [31] .nil) .no) .no) .no) .no) .no) .no)) ?_ | refine And.intro ⟨rfl, rfl⟩ ?_ | refine ⟨_, rfl, (by simp only [mts_len, vcs_len]; omega), ?_⟩ | refine And.intro (by simp only [mts_len, vcs_len]; omega) ?_ | refine ⟨_, _, rfl, mts_get (by omega), (by simp only [vcs_len]; omega), ?_⟩ | refine ⟨_, _, mts_get (by omega), vcs_get (by omega), ?_⟩ | refine ⟨_, mts_get (by omega), ?_⟩ | refine ⟨_, vcs_get (by omega), ?_⟩ | refine ⟨_, _, rfl, vcs_get (by omega), ?_⟩ | refine ⟨n + m + i, _, (by omega), mts_get (by omega), (by simp only [vcs_len]; omega), ?_⟩ | fail); all_goals try (conv => whnf)
    refine CallOb.mk [0, 1, 2, 3, 4] cS rfl (ImpL.refl _) rfl rfl ?_
    rintro _ _ ⟨⟨p2, y⟩, z2, rfl, rfl⟩
    dsimp only at z2 ⊢
    have cM2 := mul_ok (m + 1) m w n m f bs tu sl d co p2 y (tu i) z2.bd bt
    (repeat' (conv => whnf); first | refine DrawOb.re [] (.qs [0, 1, 2, 3, 4, 5, 6, 7, 8, 9, 10, 11, 13, 14, 15, 16, 17, 18, 19, 21, 22, 23, 24, 25, 26] (.l 12 [25, 19, 16] (.l 20 [25] (.l 27 [] (.l 28 [] (.l 29 [] (.l 30 [] (.qs [31] .nil) .no) .no) .no) .no) .no) .no)) (by decide +kernel) ?_ | (refine aC (fun _ => ?_) (fun _ => ?_) <;> try (exfalso; omega)) | refine aS ?_ | refine aG ?_ | refine aD ?_ | refine aH ?_ | refine aP_Q9 ?_ | refine aI ?_ | refine aJ ?_ | refine aW (.qs [0, 1, 2, 3, 4, 5, 6, 8, 9, 10, 11, 12, 13, 14, 15, 16, 17, 18, 19, 20, 21, 22, 23, 24, 25, 26, 27, 28, 29, 30] (.l 7 [30, 25, 21, 17, 15, 11] (.l 31 [] (.qs [32] .nil) .no) .no)) ?_ | refine aW (.qs [0, 1, 2, 3, 4, 5, 6, 7, 8, 9, 10, 11, 13, 14, 15, 16, 17, 18, 19, 21, 22, 23, 24, 25, 26] (.l 12 [25, 19, 16] (.l 20 [25] (.l 27 [] (.l 28 [] (.l 29 [] (.l 30 [] (.qs [31] .nil) .no) .no) .no) .no) .no) .no)) ?_ | refine And.intro ⟨rfl, rfl⟩ ?_ | refine ⟨_, rfl, (by simp only [mts_len, vcs_len]; omega), ?_⟩ | refine And.intro (by simp only [mts_len, vcs_len]; omega) ?_ | refine ⟨_, _, rfl, mts_get (by omega), (by simp only [vcs_len]; omega), ?_⟩ | refine ⟨_, _, mts_get (by omega), vcs_get (by omega), ?_⟩ | refine ⟨_, mts_get (by omega), ?_⟩ | refine ⟨_, vcs_get (by omega), ?_⟩ | refine ⟨_, _, rfl, vcs_get (by omega), ?_⟩ | refine ⟨n + m + i, _, (by omega), mts_get (by omega), (by simp only [vcs_len]; omega), ?_⟩ | fail); all_goals try (conv => whnf)
    refine CallOb.mk [0, 1, 2, 3, 4] cM2 rfl (ImpL.refl _) rfl rfl ?_
    rintro _ _ ⟨⟨p3, v⟩, z3, rfl, rfl⟩
    dsimp only at z3 ⊢
    have cM3 := mul_ok (m + 1) m w n m f bs tu sl d co p3 v (sl i) z3.bd bs'
    (repeat' (conv => whnf); first | (refine aC (fun _ => ?_) (fun _ => ?_) <;> try (exfalso; omega)) | refine aS ?_ | refine aG ?_ | refine aD ?_ | refine aH ?_ | refine aP_Q9 ?_ | refine aI ?_ | refine aJ ?_ | refine aW (.qs [0, 1, 2, 3, 4, 5, 6, 8, 9, 10, 11, 12, 13, 14, 15, 16, 17, 18, 19, 20, 21, 22, 23, 24, 25, 26, 27, 28, 29, 30] (.l 7 [30, 25, 21, 17, 15, 11] (.l 31 [] (.qs [32] .nil) .no) .no)) ?_ | refine aW (.qs [0, 1, 2, 3, 4, 5, 6, 7, 8, 9, 10, 11, 13, 14, 15, 16, 17, 18, 19, 21, 22, 23, 24, 25, 26] (.l 12 [25, 19, 16] (.l 20 [25] (.l 27 [] (.l 28 [] (.l 29 [] (.l 30 [] (.qs [31] .nil) .no) .no) .no) .no) .no) .no)) ?_ | refine And.intro ⟨rfl, rfl⟩ ?_ | refine ⟨_, rfl, (by simp only [mts_len, vcs_len]; omega), ?_⟩ | refine And.intro (by simp only [mts_len, vcs_len]; omega) ?_ | refine ⟨_, _, rfl, mts_get (by omega), (by simp only [vcs_len]; omega), ?_⟩ | refine ⟨_, _, mts_get (by omega), vcs_get (by omega), ?_⟩ | refine ⟨_, mts_get (by omega), ?_⟩ | refine ⟨_, vcs_get (by omega), ?_⟩ | refine ⟨_, _, rfl, vcs_get (by omega), ?_⟩ | refine ⟨n + m + i, _, (by omega), mts_get (by omega), (by simp only [vcs_len]; omega), ?_⟩ | fail); all_goals try (conv => whnf)
    refine CallOb.mk [0, 1, 2, 3, 4] cM3 rfl (ImpL.refl _) rfl rfl ?_
    rintro _ _ ⟨⟨p4, v2⟩, z4, rfl, rfl⟩
    dsimp only at z4 ⊢
    have cM4 := mul_ok (m + 1) m w n m f bs tu sl d co p4 d cost hd hc
    (repeat' (conv => whnf); first | (refine aC (fun _ => ?_) (fun _ => ?_) <;> try (exfalso; omega)) | refine aS ?_ | refine aG ?_ | refine aD ?_ | refine aH ?_ | refine aP_Q9 ?_ | refine aI ?_ | refine aJ ?_ | refine aW (.qs [0, 1, 2, 3, 4, 5, 6, 8, 9, 10, 11, 12, 13, 14, 15, 16, 17, 18, 19, 20, 21, 22, 23, 24, 25, 26, 27, 28, 29, 30] (.l 7 [30, 25, 21, 17, 15, 11] (.l 31 [] (.qs [32] .nil) .no) .no)) ?_ | refine aW (.qs [0, 1, 2, 3, 4, 5, 6, 7, 8, 9, 10, 11, 13, 14, 15, 16, 17, 18, 19, 21, 22, 23, 24, 25, 26] (.l 12 [25, 19, 16] (.l 20 [25] (.l 27 [] (.l 28 [] (.l 29 [] (.l 30 [] (.qs [31] .nil) .no) .no) .no) .no) .no) .no)) ?_ | refine And.intro ⟨rfl, rfl⟩ ?_ | refine ⟨_, rfl, (by simp only [mts_len, vcs_len]; omega), ?_⟩ | refine And.intro (by simp only [mts_len, vcs_len]; omega) ?_ | refine ⟨_, _, rfl, mts_get (by omega), (by simp only [vcs_len]; omega), ?_⟩ | refine ⟨_, _, mts_get (by omega), vcs_get (by omega), ?_⟩ | refine ⟨_, mts_get (by omega), ?_⟩ | refine ⟨_, vcs_get (by omega), ?_⟩ | refine ⟨_, _, rfl, vcs_get (by omega), ?_⟩ | refine ⟨n + m + i, _, (by omega), mts_get (by omega), (by simp only [vcs_len]; omega), ?_⟩ | fail); all_goals try (conv => whnf)
    refine CallOb.mk [0, 1, 2, 3, 4] cM4 rfl (ImpL.refl _) rfl rfl ?_
    rintro _ _ ⟨⟨p5, dd⟩, z5, rfl, rfl⟩
    dsimp only at z5 ⊢
    have cF := sfrac_ok (m + 1) m w n m f bs tu sl d co p5 v2 dd z4.bd z5.bd
    (repeat' (conv => whnf); first | (refine aC (fun _ => ?_) (fun _ => ?_) <;> try (exfalso; omega)) | refine aS ?_ | refine aG ?_ | refine aD ?_ | refine aH ?_ | refine aP_Q9 ?_ | refine aI ?_ | refine aJ ?_ | refine aW (.qs [0, 1, 2, 3, 4, 5, 6, 8, 9, 10, 11, 12, 13, 14, 15, 16, 17, 18, 19, 20, 21, 22, 23, 24, 25, 26, 27, 28, 29, 30] (.l 7 [30, 25, 21, 17, 15, 11] (.l 31 [] (.qs [32] .nil) .no) .no)) ?_ | refine aW (.qs [0, 1, 2, 3, 4, 5, 6, 7, 8, 9, 10, 11, 13, 14, 15, 16, 17, 18, 19, 21, 22, 23, 24, 25, 26] (.l 12 [25, 19, 16] (.l 20 [25] (.l 27 [] (.l 28 [] (.l 29 [] (.l 30 [] (.qs [31] .nil) .no) .no) .no) .no) .no) .no)) ?_ | refine And.intro ⟨rfl, rfl⟩ ?_ | refine ⟨_, rfl, (by simp only [mts_len, vcs_len]; omega), ?_⟩ | refine And.intro (by simp only [mts_len, vcs_len]; omega) ?_ | refine ⟨_, _, rfl, mts_get (by omega), (by simp only [vcs_len]; omega), ?_⟩ | refine ⟨_, _, mts_get (by omega), vcs_get (by omega), ?_⟩ | refine ⟨_, mts_get (by omega), ?_⟩ | refine ⟨_, vcs_get (by omega), ?_⟩ | refine ⟨_, _, rfl, vcs_get (by omega), ?_⟩ | refine ⟨n + m + i, _, (by omega), mts_get (by omega), (by simp only [vcs_len]; omega), ?_⟩ | fail); all_goals try (conv => whnf)
    refine CallOb.mk [0, 1, 2, 3, 4] cF rfl (ImpL.refl _) rfl rfl ?_
    rintro _ _ ⟨⟨p6, x⟩, z6, rfl, rfl⟩
    dsimp only at z6 ⊢
    obtain ⟨d1, d2⟩ := du_step z1 z2 z3 z4 z5 z6
    (repeat' (conv => whnf); first | (refine aC (fun _ => ?_) (fun _ => ?_) <;> try (exfalso; omega)) | refine aS ?_ | refine aG ?_ | refine aD ?_ | refine aH ?_ | refine aP_Q9 ?_ | refine aI ?_ | refine aJ ?_ | refine aW (.qs [0, 1, 2, 3, 4, 5, 6, 8, 9, 10, 11, 12, 13, 14, 15, 16, 17, 18, 19, 20, 21, 22, 23, 24, 25, 26, 27, 28, 29, 30] (.l 7 [30, 25, 21, 17, 15, 11] (.l 31 [] (.qs [32] .nil) .no) .no)) ?_ | refine aW (.qs [0, 1, 2, 3, 4, 5, 6, 7, 8, 9, 10, 11, 13, 14, 15, 16, 17, 18, 19, 21, 22, 23, 24, 25, 26] (.l 12 [25, 19, 16] (.l 20 [25] (.l 27 [] (.l 28 [] (.l 29 [] (.l 30 [] (.qs [31] .nil) .no) .no) .no) .no) .no) .no)) ?_ | refine And.intro ⟨rfl, rfl⟩ ?_ | refine ⟨_, rfl, (by simp only [mts_len, vcs_len]; omega), ?_⟩ | refine And.intro (by simp only [mts_len, vcs_len]; omega) ?_ | refine ⟨_, _, rfl, mts_get (by omega), (by simp only [vcs_len]; omega), ?_⟩ | refine ⟨_, _, mts_get (by omega), vcs_get (by omega), ?_⟩ | refine ⟨_, mts_get (by omega), ?_⟩ | refine ⟨_, vcs_get (by omega), ?_⟩ | refine ⟨_, _, rfl, vcs_get (by omega), ?_⟩ | refine ⟨n + m + i, _, (by omega), mts_get (by omega), (by simp only [vcs_len]; omega), ?_⟩ | fail); all_goals try (conv => whnf)
    exact ⟨(i + 1, p6, l ++ [(x.1, x.2)]), [0, 1, 2, 3, 4, 7], ⟨by dsimp only; omega, by simp [hl], fun h => hq1 (d1 h), fun D h => hq2 D (d2 (D i him) h)⟩, by dsimp only; omega, by dsimp only; rw [fr2_append]; (exact aL)⟩
  · (repeat' (conv => whnf); first | refine aC (fun _ => ?_) (fun _ => ?_) | refine aS ?_ | refine aG ?_ | refine aD ?_ | refine aP_Q9 ?_ | refine aI ?_ | refine aJ ?_ | refine aW (.qs [0, 1, 2, 3, 4, 5, 6, 8, 9, 10, 11, 12, 13, 14, 15, 16, 17, 18, 19, 20, 21, 22, 23, 24, 25, 26, 27, 28, 29, 30] (.l 7 [30, 25, 21, 17, 15, 11] (.l 31 [] (.qs [32] .nil) .no) .no)) ?_ | refine aW (.qs [0, 1, 2, 3, 4, 5, 6, 7, 8, 9, 10, 11, 13, 14, 15, 16, 17, 18, 19, 21, 22, 23, 24, 25, 26] (.l 12 [25, 19, 16] (.l 20 [25] (.l 27 [] (.l 28 [] (.l 29 [] (.l 30 [] (.qs [31] .nil) .no) .no) .no) .no) .no) .no)) ?_ | fail); all_goals try (conv => whnf)
    refine .mk [.fz 5] ?_
    (conv => whnf)
    exact ⟨(q, l), ⟨hq1, hq2⟩, OI.refl _, Imp.refl _⟩
end Go.Proofs.Ytbdahmfjeklgbaa
