/-
  A text of the proofs of this seat: lemmas that the statements' proofs use; it states nothing of the program by itself beyond the contracts that its theorems bear. Conditions: those that stand in each theorem. Its short name: Qu.
-/
import Derived.Test.YtbdahmfjeklgbaaQt
import Derived.Test.YtbdahmfjeklgbaaQn
import Derived.Test.YtbdahmfjeklgbaaQj
import Derived.Test.YtbdahmfjeklgbaaKb
set_option linter.unusedVariables false
set_option linter.unusedSimpArgs false
namespace Go.Proofs.Ytbdahmfjeklgbaa
open Go.Sx Go.Fq Go.Dt
set_option maxRecDepth 4000
set_option maxHeartbeats 2000000
--APPX fr_len, rw_len
structure QOK (p : Pr) : Prop where
  pl : PL p
  c : p.c.length ≤ 1000000000
  r : p.r.length ≤ 1000000000
theorem need_mk {α : Type} {o : Option α} {k : α → Prop} {a : α} (h : o = some a) (hk : k a) : need o k := by rw [h]; exact hk
theorem SmP.sml {p : Pr} (h : SmP p) : Sml p := by
  obtain ⟨_, h1, h2, h3, h4⟩ := h
  refine ⟨h1, h2, fun f hf => ?_, fun w hw => ⟨fun f hf => ?_, (h4 w hw).2.1, ?_⟩⟩
  · obtain ⟨a, b, c⟩ := h3 f hf; exact ⟨a, by omega⟩
  · obtain ⟨a, b, c⟩ := (h4 w hw).1 f hf; exact ⟨a, by omega⟩
  · obtain ⟨a, b, c⟩ := (h4 w hw).2; omega
/- the two solvers -/
structure Two (p : Pr) (s e t f : Int) (v w : F) : Prop where
  rng : e = 2 ↔ f = 2
  lim : e = 3 → ¬SmP p
  st : e = 0 ∨ e = 2 ∨ e = 3
  eq : e = 0 → f = 0 → s = t ∧ v = w
theorem two_ok {p : Pr} {x y : Int × List F × F × List F × List F} {e f : Int} (h : SlP p x e) (k : SolR p (y, f)) : Two p x.1 e y.1 f x.2.2.1 y.2.2.1 := by
  obtain ⟨k1, k2⟩ := k.rsol
  by_cases hv : VP p
  · have hf : f ≠ 2 := fun e => k1.1 e hv
    rcases h.yes hv with ⟨h1, h2, h3⟩ | ⟨h1, h2⟩
    · refine ⟨by omega, by omega, by omega, fun _ e => ?_⟩
      obtain ⟨a, b⟩ := k2 e
      obtain ⟨c, d⟩ := h3.uniq (VP.sn hv) b
      exact ⟨c, h2.inj a d⟩
    · exact ⟨by omega, fun _ s => h2 (fits_of s.1 s.sml), by omega, by omega⟩
  · have he := (h.no hv).1
    have hf := k1.2 hv
    exact ⟨by omega, by omega, by omega, by omega⟩
theorem aP_Qu {A B K : Prop} (k : K) (a : A := by (simp only [zA, zT, zD, zC, zN, ints_len, zR, fr_len, rw_len]; omega)) (b : B := by (simp only [zA, zT, zD, zC, zN, ints_len, zR, fr_len, rw_len]; omega)) : (A ∧ B) ∧ K := ⟨⟨a, b⟩, k⟩
theorem Exact_ok (l : List Int) (hl : l.length ≤ 9223372036854775807) (raw : Pr) (hraw : PL raw) (a b : List F) (ha : a.length ≤ 9223372036854775807) (hb : b.length ≤ 9223372036854775807) :
    Ctr Try.prog 6 [.psl 1 (ints l), prv raw, fsl a, fsl b] [] (fun r o => r = .bl true) := by
  refine fn_intro (E := env 0) tys_ok rfl rfl rfl Try.func6 (by kernel_rfl) rfl (by kernel_rfl) ?_
  have hL : (l.take 2000).length ≤ 2000 := by rw [List.length_take]; omega
  have hla := fr_len a
  have hlb := fr_len b
  have hlr := rw_len raw.r
  have hlc := fr_len raw.c
  (repeat' (conv => whnf); first | (refine aC (fun _ => ?_) (fun _ => ?_) <;> try (exfalso; omega)) | refine aS ?_ | refine aG ?_ | refine aD ?_ | refine aH ?_ | refine aP_Qu ?_ | refine aI ?_ | refine aJ ?_ | refine aW (.qs [0, 1, 2, 4, 6] (.l 3 [4, 0] (.qs [5] .nil) .no)) ?_ | refine aW (.qs [0, 2] (.l 1 [2] (.l 3 [] (.qs [4, 5, 6, 8] (.l 7 [8] (.l 9 [] (.qs [10, 11, 12, 13, 14, 16, 17] (.l 15 [16] (.l 18 [] (.qs [19, 20, 21, 22, 23, 25, 26] (.l 24 [25] (.l 27 [] (.qs [28, 29] .nil) .no) .no)) .no) .no)) .no) .no)) .no) .no)) ?_ | (refine aK [] (lsane_ok) ?_) | (refine aK [] (New_ok l hl) ?_) | fail); all_goals try (conv => whnf)
  all_goals first | rfl | skip
  refine CallOb.mk [1] (Programme_ok' _ 0 hL (by omega)) rfl (ImpL.refl _) rfl rfl ?_
  rintro _ _ ⟨⟨p, k1⟩, ⟨hvp, hp4, hr4, hk1, hsp⟩, rfl, rfl⟩
  dsimp only at hvp hp4 hr4 hk1 hsp ⊢
  have hsm := VP.sm hvp
  (repeat' (conv => whnf); first | (refine aC (fun _ => ?_) (fun _ => ?_) <;> try (exfalso; omega)) | refine aS ?_ | refine aG ?_ | refine aD ?_ | refine aH ?_ | refine aP_Qu ?_ | refine aI ?_ | refine aJ ?_ | refine aW (.qs [0, 1, 2, 4, 6] (.l 3 [4, 0] (.qs [5] .nil) .no)) ?_ | refine aW (.qs [0, 2] (.l 1 [2] (.l 3 [] (.qs [4, 5, 6, 8] (.l 7 [8] (.l 9 [] (.qs [10, 11, 12, 13, 14, 16, 17] (.l 15 [16] (.l 18 [] (.qs [19, 20, 21, 22, 23, 25, 26] (.l 24 [25] (.l 27 [] (.qs [28, 29] .nil) .no) .no)) .no) .no)) .no) .no)) .no) .no)) ?_ | fail); all_goals try (conv => whnf)
  refine CallOb.mk [1] (BentP_ok _ _ hL hk1 p hvp) rfl (ImpL.refl _) rfl rfl ?_
  rintro _ _ ⟨⟨q, k2⟩, ⟨hsq, hk2⟩, rfl, rfl⟩
  dsimp only at hsq hk2 ⊢
  (repeat' (conv => whnf); first | (refine aC (fun _ => ?_) (fun _ => ?_) <;> try (exfalso; omega)) | refine aS ?_ | refine aG ?_ | refine aD ?_ | refine aH ?_ | refine aP_Qu ?_ | refine aI ?_ | refine aJ ?_ | refine aW (.qs [0, 1, 2, 4, 6] (.l 3 [4, 0] (.qs [5] .nil) .no)) ?_ | refine aW (.qs [0, 2] (.l 1 [2] (.l 3 [] (.qs [4, 5, 6, 8] (.l 7 [8] (.l 9 [] (.qs [10, 11, 12, 13, 14, 16, 17] (.l 15 [16] (.l 18 [] (.qs [19, 20, 21, 22, 23, 25, 26] (.l 24 [25] (.l 27 [] (.qs [28, 29] .nil) .no) .no)) .no) .no)) .no) .no)) .no) .no)) ?_ | fail); all_goals try (conv => whnf)
  have hP : QOK p := ⟨hsm.pl, by have := hsm.1; omega, by have := hsm.2.1; omega⟩
  have hQ : QOK q := ⟨hsq.pl, by have := hsq.1; omega, by have := hsq.2.1; omega⟩
  have hW : QOK raw := ⟨hraw, by omega, by omega⟩
  clear hvp hp4 hr4 hsp hsm hsq
  refine LoopOb.mk (Y := Nat × Nat) (st := fun y => ⟨[(60, i64 y.1), (59, .agg [fsl p.c, .psl 4 (rws p.r), fsl q.c, .psl 4 (rws q.r), fsl raw.c, .psl 4 (rws raw.r)]), (9, .ptr 0 0), (3, fsl b), (2, fsl a)], [src (l.take 2000) y.2]⟩)
    (inv := fun y => y.1 ≤ 3 ∧ y.2 ≤ 2000) (fun y => 3 - y.1) (0, k2) [1] ⟨by simp, hk2⟩ (by (exact aL)) ?_
  clear hk1 hk2 k1 k2
  rintro ⟨i, k⟩ ⟨hi, hk⟩
  dsimp only at hi hk ⊢
  (repeat' (conv => whnf); first | refine aS ?_ | refine aG ?_ | refine aD ?_ | refine aH ?_ | refine aP_Qu ?_ | refine aI ?_ | refine aJ ?_ | refine aW (.qs [0, 1, 2, 4, 6] (.l 3 [4, 0] (.qs [5] .nil) .no)) ?_ | refine aW (.qs [0, 2] (.l 1 [2] (.l 3 [] (.qs [4, 5, 6, 8] (.l 7 [8] (.l 9 [] (.qs [10, 11, 12, 13, 14, 16, 17] (.l 15 [16] (.l 18 [] (.qs [19, 20, 21, 22, 23, 25, 26] (.l 24 [25] (.l 27 [] (.qs [28, 29] .nil) .no) .no)) .no) .no)) .no) .no)) .no) .no)) ?_ | fail); all_goals try (conv => whnf)
  refine CondOb.mk (fun hlt => ?_) (fun hlt => ?_)
  · have hi3 : i < 3 := by omega
    obtain ⟨u, hu, he⟩ : ∃ u, QOK u ∧ (i = 0 ∧ u = p ∨ i = 1 ∧ u = q ∨ i = 2 ∧ u = raw) := by
      rcases (show i = 0 ∨ i = 1 ∨ i = 2 by omega) with h | h | h
      · exact ⟨p, hP, .inl ⟨h, rfl⟩⟩
      · exact ⟨q, hQ, .inr (.inl ⟨h, rfl⟩)⟩
      · exact ⟨raw, hW, .inr (.inr ⟨h, rfl⟩)⟩
    (repeat' (conv => whnf); first | refine aS ?_ | refine aG ?_ | refine aD ?_ | refine aH ?_ | refine aP_Qu ?_ | refine aI ?_ | refine aJ ?_ | refine aW (.qs [0, 1, 2, 4, 6] (.l 3 [4, 0] (.qs [5] .nil) .no)) ?_ | refine aW (.qs [0, 2] (.l 1 [2] (.l 3 [] (.qs [4, 5, 6, 8] (.l 7 [8] (.l 9 [] (.qs [10, 11, 12, 13, 14, 16, 17] (.l 15 [16] (.l 18 [] (.qs [19, 20, 21, 22, 23, 25, 26] (.l 24 [25] (.l 27 [] (.qs [28, 29] .nil) .no) .no)) .no) .no)) .no) .no)) .no) .no)) ?_ | fail); all_goals try (conv => whnf)
    refine ⟨i, rfl, hi3, need_mk (a := prv u) (by rcases he with ⟨rfl, rfl⟩ | ⟨rfl, rfl⟩ | ⟨rfl, rfl⟩ <;> rfl) ?_⟩
    have hlu := fr_len u.c
    have hlur := rw_len u.r
    have hu1 := hu.c
    have hu2 := hu.r
    (repeat' (conv => whnf); first | refine aS ?_ | refine aG ?_ | refine aD ?_ | refine aH ?_ | refine aP_Qu ?_ | refine aI ?_ | refine aJ ?_ | refine aW (.qs [0, 1, 2, 4, 6] (.l 3 [4, 0] (.qs [5] .nil) .no)) ?_ | refine aW (.qs [0, 2] (.l 1 [2] (.l 3 [] (.qs [4, 5, 6, 8] (.l 7 [8] (.l 9 [] (.qs [10, 11, 12, 13, 14, 16, 17] (.l 15 [16] (.l 18 [] (.qs [19, 20, 21, 22, 23, 25, 26] (.l 24 [25] (.l 27 [] (.qs [28, 29] .nil) .no) .no)) .no) .no)) .no) .no)) .no) .no)) ?_ | fail); all_goals try (conv => whnf)
    refine CallOb.mk [0] (Point_ok _ k hL hk (fr2 u.c).length (by omega)) rfl (ImpL.refl _) rfl rfl ?_
    rintro _ _ ⟨⟨y, k1⟩, ⟨hyl, hyv, hk1⟩, rfl, rfl⟩
    dsimp only at hyl hk1 ⊢
    have cV := Valid_ok u hu.pl
    have crV := rValidP_ok u hu.pl
    have cS := Small_ok u hu.pl
    have crS := rSmall_ok u hu.pl
    have cF := Feasible_ok u hu.pl y (by omega)
    have crF := rFeasible_ok u hu.pl y (by omega)
    have cG := Feasible_ok u hu.pl a ha
    have crG := rFeasible_ok u hu.pl a ha
    have cX := Solve_ok' u hu.pl
    have crX := Solve_ok u hu.pl
    have hT : ∀ {x y : Int × List F × F × List F × List F} {e f : Int}, SlP u x e → SolR u (y, f) → Two u x.1 e y.1 f x.2.2.1 y.2.2.1 := two_ok
    (repeat' (conv => whnf); first | refine aC (fun _ => ?_) (fun _ => ?_) | refine aS ?_ | refine aG ?_ | refine aH ?_ | refine aP_Qu ?_ | refine aI ?_ | refine aJ ?_ | refine aW (.qs [0, 1, 2, 4, 6] (.l 3 [4, 0] (.qs [5] .nil) .no)) ?_ | refine aW (.qs [0, 2] (.l 1 [2] (.l 3 [] (.qs [4, 5, 6, 8] (.l 7 [8] (.l 9 [] (.qs [10, 11, 12, 13, 14, 16, 17] (.l 15 [16] (.l 18 [] (.qs [19, 20, 21, 22, 23, 25, 26] (.l 24 [25] (.l 27 [] (.qs [28, 29] .nil) .no) .no)) .no) .no)) .no) .no)) .no) .no)) ?_ | fail); all_goals try (conv => whnf)
    refine CutOb.cut (Y := Unit) (st := fun _ => ⟨[(12, .ptr 1 0), (60, i64 i), (59, .agg [fsl p.c, .psl 4 (rws p.r), fsl q.c, .psl 4 (rws q.r), fsl raw.c, .psl 4 (rws raw.r)]), (9, .ptr 0 0), (3, fsl b), (2, fsl a)], [src (l.take 2000) k1, .box [fsl u.c, .psl 4 (rws u.r)]]⟩) (inv := fun _ => True) ?_ ?_
    · generalize VP u = V at *
      generalize SmP u = S at *
      generalize Feas u y = Fy at *
      generalize Feas u a = Fa at *
      clear hT cX crX
      (repeat' (conv => whnf); first | (refine CondOb.mk (fun h' => ?_) (fun h' => ?_) <;> first | (exfalso; first | omega | exact h' Iff.rfl | (simp only [iff_self, not_true_eq_false, ne_eq] at h'; done)) | skip) | (refine aC (fun _ => ?_) (fun _ => ?_) <;> try (exfalso; omega)) | refine aS ?_ | refine aG ?_ | refine aD ?_ | refine aH ?_ | refine aP_Qu ?_ | refine aI ?_ | refine aJ ?_ | refine aW (.qs [0, 1, 2, 4, 6] (.l 3 [4, 0] (.qs [5] .nil) .no)) ?_ | refine aW (.qs [0, 2] (.l 1 [2] (.l 3 [] (.qs [4, 5, 6, 8] (.l 7 [8] (.l 9 [] (.qs [10, 11, 12, 13, 14, 16, 17] (.l 15 [16] (.l 18 [] (.qs [19, 20, 21, 22, 23, 25, 26] (.l 24 [25] (.l 27 [] (.qs [28, 29] .nil) .no) .no)) .no) .no)) .no) .no)) .no) .no)) ?_ | (refine aK [] cV ?_) | (refine aK [] crV ?_) | (refine aK [] cS ?_) | (refine aK [] crS ?_) | (refine aK [] cF ?_) | (refine aK [] crF ?_) | (refine aK [] cG ?_) | (refine aK [] crG ?_) | fail); all_goals try (conv => whnf)
      all_goals first
        | exact ⟨(), [0, 1], trivial, by (exact aL)⟩
        | trace_state
    rintro - -
    clear cV crV cF crF cG crG cS
    (repeat' (conv => whnf); first | (refine aC (fun _ => ?_) (fun _ => ?_) <;> try (exfalso; omega)) | refine aS ?_ | refine aG ?_ | refine aD ?_ | refine aH ?_ | refine aP_Qu ?_ | refine aI ?_ | refine aJ ?_ | refine aW (.qs [0, 1, 2, 4, 6] (.l 3 [4, 0] (.qs [5] .nil) .no)) ?_ | refine aW (.qs [0, 2] (.l 1 [2] (.l 3 [] (.qs [4, 5, 6, 8] (.l 7 [8] (.l 9 [] (.qs [10, 11, 12, 13, 14, 16, 17] (.l 15 [16] (.l 18 [] (.qs [19, 20, 21, 22, 23, 25, 26] (.l 24 [25] (.l 27 [] (.qs [28, 29] .nil) .no) .no)) .no) .no)) .no) .no)) .no) .no)) ?_ | fail); all_goals try (conv => whnf)
    refine CallOb.mk [] cX rfl (ImpL.refl _) rfl rfl ?_
    rintro _ _ ⟨⟨⟨s1, X1, v1, Y1, Z1⟩, e1⟩, hA, rfl, rfl⟩
    dsimp only at hA ⊢
    (repeat' (conv => whnf); first | (refine aC (fun _ => ?_) (fun _ => ?_) <;> try (exfalso; omega)) | refine aS ?_ | refine aG ?_ | refine aD ?_ | refine aH ?_ | refine aP_Qu ?_ | refine aI ?_ | refine aJ ?_ | refine aW (.qs [0, 1, 2, 4, 6] (.l 3 [4, 0] (.qs [5] .nil) .no)) ?_ | refine aW (.qs [0, 2] (.l 1 [2] (.l 3 [] (.qs [4, 5, 6, 8] (.l 7 [8] (.l 9 [] (.qs [10, 11, 12, 13, 14, 16, 17] (.l 15 [16] (.l 18 [] (.qs [19, 20, 21, 22, 23, 25, 26] (.l 24 [25] (.l 27 [] (.qs [28, 29] .nil) .no) .no)) .no) .no)) .no) .no)) .no) .no)) ?_ | fail); all_goals try (conv => whnf)
    refine CallOb.mk [] crX rfl (ImpL.refl _) rfl rfl ?_
    rintro _ _ ⟨⟨⟨s2, X2, v2, Y2, Z2⟩, e2⟩, hB, rfl, rfl⟩
    have hT := hT hA hB
    dsimp only at hT ⊢
    obtain ⟨t1, t2, t3, t4⟩ := hT
    clear hA hB cX crX
    generalize SmP u = S at *
    (repeat' (conv => whnf); first | refine aC (fun _ => ?_) (fun _ => ?_) | refine aS ?_ | refine aG ?_ | refine aH ?_ | refine aP_Qu ?_ | refine aI ?_ | refine aJ ?_ | refine aW (.qs [0, 1, 2, 4, 6] (.l 3 [4, 0] (.qs [5] .nil) .no)) ?_ | refine aW (.qs [0, 2] (.l 1 [2] (.l 3 [] (.qs [4, 5, 6, 8] (.l 7 [8] (.l 9 [] (.qs [10, 11, 12, 13, 14, 16, 17] (.l 15 [16] (.l 18 [] (.qs [19, 20, 21, 22, 23, 25, 26] (.l 24 [25] (.l 27 [] (.qs [28, 29] .nil) .no) .no)) .no) .no)) .no) .no)) .no) .no)) ?_ | fail); all_goals try (conv => whnf)
    refine CutOb.cut (Y := Unit) (st := fun _ => ⟨[(17, i64 e2), (16, .ptr 2 0), (15, i64 e1), (14, .ptr 1 0), (60, i64 i), (59, .agg [fsl p.c, .psl 4 (rws p.r), fsl q.c, .psl 4 (rws q.r), fsl raw.c, .psl 4 (rws raw.r)]), (9, .ptr 0 0), (3, fsl b), (2, fsl a)], [src (l.take 2000) k1, .box [i64 s1, fsl X1, i64 v1.1, i64 v1.2, fsl Y1, fsl Z1], .box [i64 s2, fsl X2, i64 v2.1, i64 v2.2, fsl Y2, fsl Z2]]⟩) (inv := fun _ => True) ?_ ?_
    · (repeat' (conv => whnf); first | (refine aC (fun _ => ?_) (fun _ => ?_) <;> try (exfalso; omega)) | refine aS ?_ | refine aG ?_ | refine aD ?_ | refine aH ?_ | refine aP_Qu ?_ | refine aI ?_ | refine aJ ?_ | refine aW (.qs [0, 1, 2, 4, 6] (.l 3 [4, 0] (.qs [5] .nil) .no)) ?_ | refine aW (.qs [0, 2] (.l 1 [2] (.l 3 [] (.qs [4, 5, 6, 8] (.l 7 [8] (.l 9 [] (.qs [10, 11, 12, 13, 14, 16, 17] (.l 15 [16] (.l 18 [] (.qs [19, 20, 21, 22, 23, 25, 26] (.l 24 [25] (.l 27 [] (.qs [28, 29] .nil) .no) .no)) .no) .no)) .no) .no)) .no) .no)) ?_ | (refine aK [] crS ?_) | fail); all_goals try (conv => whnf)
      all_goals first
        | exact ⟨(), [0, 2, 3], trivial, by (exact aL)⟩
        | (exfalso; first | (have := t2 (by assumption); contradiction) | (simp_all; omega) | (simp_all; done))
        | trace_state
    rintro - -
    clear crS
    (repeat' (conv => whnf); first | (refine aC (fun _ => ?_) (fun _ => ?_) <;> try (exfalso; omega)) | refine aS ?_ | refine aG ?_ | refine aD ?_ | refine aH ?_ | refine aP_Qu ?_ | refine aI ?_ | refine aJ ?_ | refine aW (.qs [0, 1, 2, 4, 6] (.l 3 [4, 0] (.qs [5] .nil) .no)) ?_ | refine aW (.qs [0, 2] (.l 1 [2] (.l 3 [] (.qs [4, 5, 6, 8] (.l 7 [8] (.l 9 [] (.qs [10, 11, 12, 13, 14, 16, 17] (.l 15 [16] (.l 18 [] (.qs [19, 20, 21, 22, 23, 25, 26] (.l 24 [25] (.l 27 [] (.qs [28, 29] .nil) .no) .no)) .no) .no)) .no) .no)) .no) .no)) ?_ | fail); all_goals try (conv => whnf)
    all_goals first
      | exact ⟨(i + 1, k1), [0], ⟨by dsimp only; omega, hk1⟩, by dsimp only; omega, by (exact aL)⟩
      | (exfalso; obtain ⟨h1, h2⟩ := t4 (by omega) (by omega); subst h1 h2; simp_all [conj]; done)
      | trace_state
  clear hP hQ hW hi hlt
  (repeat' (conv => whnf); first | (refine aC (fun _ => ?_) (fun _ => ?_) <;> try (exfalso; omega)) | refine aS ?_ | refine aG ?_ | refine aD ?_ | refine aH ?_ | refine aP_Qu ?_ | refine aI ?_ | refine aJ ?_ | refine aW (.qs [0, 1, 2, 4, 6] (.l 3 [4, 0] (.qs [5] .nil) .no)) ?_ | refine aW (.qs [0, 2] (.l 1 [2] (.l 3 [] (.qs [4, 5, 6, 8] (.l 7 [8] (.l 9 [] (.qs [10, 11, 12, 13, 14, 16, 17] (.l 15 [16] (.l 18 [] (.qs [19, 20, 21, 22, 23, 25, 26] (.l 24 [25] (.l 27 [] (.qs [28, 29] .nil) .no) .no)) .no) .no)) .no) .no)) .no) .no)) ?_ | fail); all_goals try (conv => whnf)
  refine CallOb.mk [0] (Point_ok _ k hL hk 4 (by omega)) rfl (ImpL.refl _) rfl rfl ?_
  rintro _ _ ⟨⟨z1, k1⟩, ⟨hz1, hzv, hk1⟩, rfl, rfl⟩
  dsimp only at hz1 hk1 ⊢
  (repeat' (conv => whnf); first | (refine aC (fun _ => ?_) (fun _ => ?_) <;> try (exfalso; omega)) | refine aS ?_ | refine aG ?_ | refine aD ?_ | refine aH ?_ | refine aP_Qu ?_ | refine aI ?_ | refine aJ ?_ | refine aW (.qs [0, 1, 2, 4, 6] (.l 3 [4, 0] (.qs [5] .nil) .no)) ?_ | refine aW (.qs [0, 2] (.l 1 [2] (.l 3 [] (.qs [4, 5, 6, 8] (.l 7 [8] (.l 9 [] (.qs [10, 11, 12, 13, 14, 16, 17] (.l 15 [16] (.l 18 [] (.qs [19, 20, 21, 22, 23, 25, 26] (.l 24 [25] (.l 27 [] (.qs [28, 29] .nil) .no) .no)) .no) .no)) .no) .no)) .no) .no)) ?_ | fail); all_goals try (conv => whnf)
  refine CallOb.mk [0] (Point_ok _ k1 hL hk1 4 (by omega)) rfl (ImpL.refl _) rfl rfl ?_
  rintro _ _ ⟨⟨z2, k2⟩, ⟨hz2, hzv2, hk2⟩, rfl, rfl⟩
  dsimp only at hz2 hk2 ⊢
  (repeat' (conv => whnf); first | (refine aC (fun _ => ?_) (fun _ => ?_) <;> try (exfalso; omega)) | refine aS ?_ | refine aG ?_ | refine aD ?_ | refine aH ?_ | refine aP_Qu ?_ | refine aI ?_ | refine aJ ?_ | refine aW (.qs [0, 1, 2, 4, 6] (.l 3 [4, 0] (.qs [5] .nil) .no)) ?_ | refine aW (.qs [0, 2] (.l 1 [2] (.l 3 [] (.qs [4, 5, 6, 8] (.l 7 [8] (.l 9 [] (.qs [10, 11, 12, 13, 14, 16, 17] (.l 15 [16] (.l 18 [] (.qs [19, 20, 21, 22, 23, 25, 26] (.l 24 [25] (.l 27 [] (.qs [28, 29] .nil) .no) .no)) .no) .no)) .no) .no)) .no) .no)) ?_ | fail); all_goals try (conv => whnf)
  refine LoopOb.mk (Y := Nat) (st := fun j => ⟨[(163, i64 j), (162, .agg [fsl a, fsl b, fsl z1, fsl z2])], []⟩)
    (inv := fun j => j ≤ 2) (fun j => 2 - j) 0 [] (by omega) (by (exact aL)) ?_
  intro j hj
  (repeat' (conv => whnf); first | refine aS ?_ | refine aG ?_ | refine aD ?_ | refine aH ?_ | refine aP_Qu ?_ | refine aI ?_ | refine aJ ?_ | refine aW (.qs [0, 1, 2, 4, 6] (.l 3 [4, 0] (.qs [5] .nil) .no)) ?_ | refine aW (.qs [0, 2] (.l 1 [2] (.l 3 [] (.qs [4, 5, 6, 8] (.l 7 [8] (.l 9 [] (.qs [10, 11, 12, 13, 14, 16, 17] (.l 15 [16] (.l 18 [] (.qs [19, 20, 21, 22, 23, 25, 26] (.l 24 [25] (.l 27 [] (.qs [28, 29] .nil) .no) .no)) .no) .no)) .no) .no)) .no) .no)) ?_ | fail); all_goals try (conv => whnf)
  refine CondOb.mk (fun hlt => ?_) (fun hlt => ?_)
  · obtain ⟨x, y, hx, hy, he⟩ : ∃ x y : List F, x.length ≤ 9223372036854775807 ∧ y.length ≤ 9223372036854775807 ∧ (j = 0 ∧ x = a ∧ y = b ∨ j = 1 ∧ x = z1 ∧ y = z2) := by
      rcases (show j = 0 ∨ j = 1 by omega) with h | h
      · exact ⟨a, b, ha, hb, .inl ⟨h, rfl, rfl⟩⟩
      · exact ⟨z1, z2, by omega, by omega, .inr ⟨h, rfl, rfl⟩⟩
    (repeat' (conv => whnf); first | refine aS ?_ | refine aG ?_ | refine aD ?_ | refine aH ?_ | refine aP_Qu ?_ | refine aI ?_ | refine aJ ?_ | refine aW (.qs [0, 1, 2, 4, 6] (.l 3 [4, 0] (.qs [5] .nil) .no)) ?_ | refine aW (.qs [0, 2] (.l 1 [2] (.l 3 [] (.qs [4, 5, 6, 8] (.l 7 [8] (.l 9 [] (.qs [10, 11, 12, 13, 14, 16, 17] (.l 15 [16] (.l 18 [] (.qs [19, 20, 21, 22, 23, 25, 26] (.l 24 [25] (.l 27 [] (.qs [28, 29] .nil) .no) .no)) .no) .no)) .no) .no)) .no) .no)) ?_ | fail); all_goals try (conv => whnf)
    refine ⟨j, rfl, by omega, need_mk (a := .agg [fsl x, fsl y]) (by rcases he with ⟨rfl, rfl, rfl⟩ | ⟨rfl, rfl, rfl⟩ <;> rfl) ?_⟩
    have cB := Product_ok x y hx
    have crB := rProduct_ok x y hx
    generalize prod x y = B at *
    (repeat' (conv => whnf); first | (refine aC (fun _ => ?_) (fun _ => ?_) <;> try (exfalso; omega)) | refine aS ?_ | refine aG ?_ | refine aD ?_ | refine aH ?_ | refine aP_Qu ?_ | refine aI ?_ | refine aJ ?_ | refine aW (.qs [0, 1, 2, 4, 6] (.l 3 [4, 0] (.qs [5] .nil) .no)) ?_ | refine aW (.qs [0, 2] (.l 1 [2] (.l 3 [] (.qs [4, 5, 6, 8] (.l 7 [8] (.l 9 [] (.qs [10, 11, 12, 13, 14, 16, 17] (.l 15 [16] (.l 18 [] (.qs [19, 20, 21, 22, 23, 25, 26] (.l 24 [25] (.l 27 [] (.qs [28, 29] .nil) .no) .no)) .no) .no)) .no) .no)) .no) .no)) ?_ | (refine aK [] cB ?_) | (refine aK [] crB ?_) | refine ⟨0, rfl, by omega, ?_⟩ | refine ⟨1, rfl, by omega, ?_⟩ | fail); all_goals try (conv => whnf)
    all_goals first
      | exact ⟨j + 1, [], by omega, by omega, by (exact aL)⟩
      | (exfalso; simp_all [conj]; done)
      | trace_state
  (repeat' (conv => whnf); first | (refine aC (fun _ => ?_) (fun _ => ?_) <;> try (exfalso; omega)) | refine aS ?_ | refine aG ?_ | refine aD ?_ | refine aH ?_ | refine aP_Qu ?_ | refine aI ?_ | refine aJ ?_ | refine aW (.qs [0, 1, 2, 4, 6] (.l 3 [4, 0] (.qs [5] .nil) .no)) ?_ | refine aW (.qs [0, 2] (.l 1 [2] (.l 3 [] (.qs [4, 5, 6, 8] (.l 7 [8] (.l 9 [] (.qs [10, 11, 12, 13, 14, 16, 17] (.l 15 [16] (.l 18 [] (.qs [19, 20, 21, 22, 23, 25, 26] (.l 24 [25] (.l 27 [] (.qs [28, 29] .nil) .no) .no)) .no) .no)) .no) .no)) .no) .no)) ?_ | (refine aK [] (lsane_ok) ?_) | fail); all_goals try (conv => whnf)
  rfl
end Go.Proofs.Ytbdahmfjeklgbaa
