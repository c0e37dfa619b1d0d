/-
  A text of the proofs of this seat: lemmas that the statements' proofs use; it states nothing of the program by itself beyond the contracts that its theorems bear. Conditions: those that stand in each theorem. Its short name: W4.
-/
import Derived.Test.YtppdpfaipkjpmaaW3
import Derived.Test.YtppdpfaipkjpmaaPl
set_option linter.unusedVariables false
set_option linter.unusedSimpArgs false
namespace Go.Proofs.Ytppdpfaipkjpmaa
open Go.Sx Go.Cv
set_option maxRecDepth 4000
set_option maxHeartbeats 2000000
structure Prep (vs : List Int) (p q : Int) (ws : List Int) (p' q' : Int) (a b : C3) : Prop where
  f : ∃ p0 : Nat, p = p0 ∧ VF vs p0 q ∧ NF (val vs p0 q) a.1 a.2.1 a.2.2
  g : ∃ p0 : Nat, p' = p0 ∧ VF ws p0 q' ∧ NF (val ws p0 q') b.1 b.2.1 b.2.2
  va : VC a
  vb : VC b
/- the errors that come first -/
def PrepE (vs : List Int) (p q : Int) (ws : List Int) (p' q' : Int) (e : Int) : Prop :=
  (e = 1 ∧ (¬ValidP vs p q ∨ ¬ValidP ws p' q')) ∨ (e = 3 ∧ ∃ a b, Prep vs p q ws p' q' a b ∧ 120 < com a b)
abbrev gap (a b : C3) : List SV := [.psl 1 (ints a.1), i64 a.2.1, i64 a.2.2, .psl 1 (ints b.1), i64 b.2.1, i64 b.2.2, i64 (frm a b), i64 (com a b), i64 (drf a b)]
abbrev gap0 : SV := .agg [.nil, i64 0, i64 0, .nil, i64 0, i64 0, i64 0, i64 0, i64 0]
theorem normP_ne {vs p q x} (h : NormP vs p q x.1 x.2.1 x.2.2.1 x.2.2.2) (he : x.2.2.2 ≠ 0) : ¬ValidP vs p q ∧ x = ([], 0, 0, 1) := by
  obtain ⟨x1, x2, x3, x4⟩ := x
  rcases h with ⟨h, _⟩ | ⟨h1, h2, h3, h4, h5⟩
  · exact absurd h he
  · simp only at h2 h3 h4 h5; subst h2 h3 h4 h5; exact ⟨h1, rfl⟩
def BothP (vs : List Int) (p q : Int) (ws : List Int) (p' q' : Int) (r : SV) : Prop :=
  (∃ e, PrepE vs p q ws p' q' e ∧ r = .tup [gap0, i64 e]) ∨ (∃ a b, Prep vs p q ws p' q' a b ∧ com a b ≤ 120 ∧ r = .tup [.agg (gap a b), i64 0])
theorem both_ok (vs : List Int) (p q : Int) (ws : List Int) (p' q' : Int) (hv : vs.length ≤ 140737488355328) (hw : ws.length ≤ 140737488355328) :
    Ctr Try.prog 34 [crv vs p q, crv ws p' q'] [] (fun r o => o = [] ∧ BothP vs p q ws p' q' r) := by
  refine fn_intro (E := env 0) tys_ok rfl rfl rfl Try.func34 (by kernel_rfl) rfl (by kernel_rfl) ?_
  repeat' (conv => whnf
           first
           | refine CondOb.mk (fun _ => ?_) (fun _ => ?_)
           | refine ArOb.fits (by first | omega | (simp only [ints_len] at *; omega)) ?_
           | refine LitOb.vec ?_
           | refine MakeOb.vec ?_
           | refine AllocOb.box ?_
           | refine AggOb.mk (by decide +kernel) ?_
           | refine ArU.fits (by first | omega | (simp only [ints_len] at *; omega)) ?_
           | refine ArB.fits (by first | omega | (simp only [ints_len] at *; omega)) ?_
           | refine CutOb.split ?_
           | refine Gh.mk [] ?_
           | refine And.intro (And.intro (by (simp only [List.length_append, List.length_take, List.length_drop, List.length_cons, List.length_nil, ints_len, List.length_replicate, Go.Cv.vals_len]; omega)) (by (simp only [List.length_append, List.length_take, List.length_drop, List.length_cons, List.length_nil, ints_len, List.length_replicate, Go.Cv.vals_len]; omega))) ?_
           | refine ⟨_, _, rfl, ints_get (by first | omega | (simp only [ints_len] at *; omega)), ?_⟩
           | refine ⟨_, _, (Int.toNat_of_nonneg (by first | omega | (simp only [ints_len] at *; omega))).symm, ints_get (by first | omega | (simp only [ints_len] at *; omega)), ?_⟩
           | fail)
  all_goals try (conv => whnf)
  refine CallOb.mk [] (CNormal_ok vs p q hv) rfl (ImpL.refl _) rfl rfl ?_
  rintro _ _ ⟨⟨av, ap, aq, ea⟩, hA, rfl, rfl⟩
  repeat' (conv => whnf
           first
           | refine CondOb.mk (fun _ => ?_) (fun _ => ?_)
           | refine ArOb.fits (by first | omega | (simp only [ints_len] at *; omega)) ?_
           | refine LitOb.vec ?_
           | refine MakeOb.vec ?_
           | refine AllocOb.box ?_
           | refine AggOb.mk (by decide +kernel) ?_
           | refine ArU.fits (by first | omega | (simp only [ints_len] at *; omega)) ?_
           | refine ArB.fits (by first | omega | (simp only [ints_len] at *; omega)) ?_
           | refine CutOb.split ?_
           | refine Gh.mk [] ?_
           | refine And.intro (And.intro (by (simp only [List.length_append, List.length_take, List.length_drop, List.length_cons, List.length_nil, ints_len, List.length_replicate, Go.Cv.vals_len]; omega)) (by (simp only [List.length_append, List.length_take, List.length_drop, List.length_cons, List.length_nil, ints_len, List.length_replicate, Go.Cv.vals_len]; omega))) ?_
           | refine ⟨_, _, rfl, ints_get (by first | omega | (simp only [ints_len] at *; omega)), ?_⟩
           | refine ⟨_, _, (Int.toNat_of_nonneg (by first | omega | (simp only [ints_len] at *; omega))).symm, ints_get (by first | omega | (simp only [ints_len] at *; omega)), ?_⟩
           | fail)
  all_goals try (conv => whnf)
  · have he : ea ≠ 0 := by assumption
    obtain ⟨h1, h2⟩ := normP_ne hA he
    cases h2
    exact ⟨rfl, .inl ⟨1, .inl ⟨rfl, .inl h1⟩, rfl⟩⟩
  have h1 : ea = 0 := Classical.not_not.1 (by assumption)
  subst h1
  refine CallOb.mk [] (CNormal_ok ws p' q' hw) rfl (ImpL.refl _) rfl rfl ?_
  rintro _ _ ⟨⟨bv, bp, bq, eb⟩, hB, rfl, rfl⟩
  repeat' (conv => whnf
           first
           | refine CondOb.mk (fun _ => ?_) (fun _ => ?_)
           | refine ArOb.fits (by first | omega | (simp only [ints_len] at *; omega)) ?_
           | refine LitOb.vec ?_
           | refine MakeOb.vec ?_
           | refine AllocOb.box ?_
           | refine AggOb.mk (by decide +kernel) ?_
           | refine ArU.fits (by first | omega | (simp only [ints_len] at *; omega)) ?_
           | refine ArB.fits (by first | omega | (simp only [ints_len] at *; omega)) ?_
           | refine CutOb.split ?_
           | refine Gh.mk [] ?_
           | refine And.intro (And.intro (by (simp only [List.length_append, List.length_take, List.length_drop, List.length_cons, List.length_nil, ints_len, List.length_replicate, Go.Cv.vals_len]; omega)) (by (simp only [List.length_append, List.length_take, List.length_drop, List.length_cons, List.length_nil, ints_len, List.length_replicate, Go.Cv.vals_len]; omega))) ?_
           | refine ⟨_, _, rfl, ints_get (by first | omega | (simp only [ints_len] at *; omega)), ?_⟩
           | refine ⟨_, _, (Int.toNat_of_nonneg (by first | omega | (simp only [ints_len] at *; omega))).symm, ints_get (by first | omega | (simp only [ints_len] at *; omega)), ?_⟩
           | fail)
  all_goals try (conv => whnf)
  · have he : eb ≠ 0 := by assumption
    obtain ⟨h1, h2⟩ := normP_ne hB he
    cases h2
    exact ⟨rfl, .inl ⟨1, .inl ⟨rfl, .inr h1⟩, rfl⟩⟩
  have h2 : eb = 0 := Classical.not_not.1 (by assumption)
  subst h2
  obtain ⟨p0, pa, rfl, hpa, vf, nf, va⟩ := norm_ok hA
  obtain ⟨p0', pb, rfl, hpb, vg, ng, vb⟩ := norm_ok hB
  simp only at hpa hpb nf ng va vb
  subst hpa
  subst hpb
  have hP : Prep vs p0 q ws p0' q' (av, pa, aq) (bv, pb, bq) := ⟨⟨p0, rfl, vf, nf⟩, ⟨p0', rfl, vg, ng⟩, va, vb⟩
  have a1 := va.p1
  have a2 := va.p2
  have b1 := vb.p1
  have b2 := vb.p2
  have a3 := va.pn
  have b3 := vb.pn
  have a4 := va.n2
  have b4 := vb.n2
  refine DrawOb.cut [] (.qs [0, 1, 2, 4, 7, 8, 9, 10] (.l 3 [10, 8, 4, 1, 0] (.l 5 [10, 8, 1, 0] (.qs [6] (.l 11 [1, 0] (.qs [12] (.l 13 [1, 0] (.l 14 [] .nil .no) .no)) (.l 13 [10, 8, 1, 0] (.l 11 [1, 0] (.qs [12] (.l 14 [] .nil .no)) .no) .no))) (.l 13 [10, 8, 4, 1, 0] (.l 5 [10, 8, 1, 0] (.qs [6] (.l 11 [1, 0] (.qs [12] (.l 14 [] .nil .no)) .no)) .no) .no)) (.l 13 [10, 8, 4, 2, 1, 0] (.l 3 [10, 8, 4, 1, 0] (.l 5 [10, 8, 1, 0] (.qs [6] (.l 11 [1, 0] (.qs [12] (.l 14 [] .nil .no)) .no)) .no) .no) .no))) (Y := Unit) (st := fun _ => ⟨[(9, .ptr 0 0), (6, .ptr 1 0), (8, .ptr 2 0), (4, .ptr 3 0)], [.box [.psl 1 (ints av), i64 pa, i64 aq, .psl 1 (ints bv), i64 pb, i64 bq, i64 (frm (av, pa, aq) (bv, pb, bq)), i64 (com (av, pa, aq) (bv, pb, bq)), i64 0], .box [.psl 1 (ints av), i64 pa, i64 aq], .box [.psl 1 (ints bv), i64 pb, i64 bq], .box [.nil, i64 0, i64 0, .nil, i64 0, i64 0, i64 0, i64 0, i64 0]]⟩) (inv := fun _ => True) (by decide +kernel) ?_ ?_
  · repeat' (conv => whnf
             first
             | refine And.intro ?_ ?_
             | refine CondOb.mk (fun _ => ?_) (fun _ => ?_)
             | refine ArOb.fits (by first | omega | (simp only [ints_len] at *; omega)) ?_
             | refine LitOb.vec ?_
             | refine MakeOb.vec ?_
             | refine AllocOb.box ?_
             | refine AggOb.mk (by decide +kernel) ?_
             | refine ArU.fits (by first | omega | (simp only [ints_len] at *; omega)) ?_
             | refine ArB.fits (by first | omega | (simp only [ints_len] at *; omega)) ?_
             | refine CutOb.split ?_
             | refine Gh.mk [] ?_
             | refine And.intro (And.intro (by (simp only [List.length_append, List.length_take, List.length_drop, List.length_cons, List.length_nil, ints_len, List.length_replicate, Go.Cv.vals_len]; omega)) (by (simp only [List.length_append, List.length_take, List.length_drop, List.length_cons, List.length_nil, ints_len, List.length_replicate, Go.Cv.vals_len]; omega))) ?_
             | refine ⟨_, _, rfl, ints_get (by first | omega | (simp only [ints_len] at *; omega)), ?_⟩
             | refine ⟨_, _, (Int.toNat_of_nonneg (by first | omega | (simp only [ints_len] at *; omega))).symm, ints_get (by first | omega | (simp only [ints_len] at *; omega)), ?_⟩
             | (refine CallOb.mk [] (Start_ok av pa aq a3 (by omega)) rfl (ImpL.refl _) rfl rfl ?_; rintro _ _ ⟨rfl, rfl⟩)
             | (refine CallOb.mk [] (Start_ok bv pb bq b3 (by omega)) rfl (ImpL.refl _) rfl rfl ?_; rintro _ _ ⟨rfl, rfl⟩)
             | (refine CallOb.mk [] (Common_ok pa pb a1 b1 (by omega) (by omega)) rfl (ImpL.refl _) rfl rfl ?_; rintro _ _ ⟨rfl, rfl⟩)
             | fail)
    all_goals try (conv => whnf)
    all_goals refine ⟨(), [5, 3, 4, 2], trivial, ?_⟩
    all_goals refine Le.mk (by kernel_rfl) ?_ ?_ <;> repeat' (first | exact True.intro | refine And.intro ?_ ?_ | exact Imp.refl _ | exact Imp.num (by simp only [frm]; omega) | exact rfl)
  · rintro _ _
    repeat' (conv => whnf
             first
             | refine CondOb.mk (fun _ => ?_) (fun _ => ?_)
             | refine ArOb.fits (by first | omega | (simp only [ints_len] at *; omega)) ?_
             | refine LitOb.vec ?_
             | refine MakeOb.vec ?_
             | refine AllocOb.box ?_
             | refine AggOb.mk (by decide +kernel) ?_
             | refine ArU.fits (by first | omega | (simp only [ints_len] at *; omega)) ?_
             | refine ArB.fits (by first | omega | (simp only [ints_len] at *; omega)) ?_
             | refine CutOb.split ?_
             | refine Gh.mk [] ?_
             | refine And.intro (And.intro (by (simp only [List.length_append, List.length_take, List.length_drop, List.length_cons, List.length_nil, ints_len, List.length_replicate, Go.Cv.vals_len]; omega)) (by (simp only [List.length_append, List.length_take, List.length_drop, List.length_cons, List.length_nil, ints_len, List.length_replicate, Go.Cv.vals_len]; omega))) ?_
             | refine ⟨_, _, rfl, ints_get (by first | omega | (simp only [ints_len] at *; omega)), ?_⟩
             | refine ⟨_, _, (Int.toNat_of_nonneg (by first | omega | (simp only [ints_len] at *; omega))).symm, ints_get (by first | omega | (simp only [ints_len] at *; omega)), ?_⟩
             | refine DrawOb.mk [] (.qs [0, 1, 2, 3, 4, 5, 6, 7, 8, 9, 10, 11, 12, 13, 14, 15, 16, 17] (.l 18 [] .nil .no)) (by decide +kernel) ?_
             | fail)
    all_goals try (conv => whnf)
    · have h : 120 < com (av, pa, aq) (bv, pb, bq) := by
        have : (120 : Int) < ((com (av, pa, aq) (bv, pb, bq) : Nat) : Int) := by assumption
        omega
      exact ⟨rfl, .inl ⟨3, .inr ⟨rfl, _, _, hP, h⟩, rfl⟩⟩
    have hle : com (av, pa, aq) (bv, pb, bq) ≤ 120 := by
      have : ¬(120 : Int) < ((com (av, pa, aq) (bv, pb, bq) : Nat) : Int) := by assumption
      omega
    have c1 := com_pos (a := (av, pa, aq)) (b := (bv, pb, bq)) va vb
    generalize hl : com (av, pa, aq) (bv, pb, bq) = l at *
    have hd : drf (av, pa, aq) (bv, pb, bq) = ((l / pa : Nat) : Int) * aq - ((l / pb : Nat) : Int) * bq := by
      unfold drf; rw [hl]; simp only; rw [Int.mul_comm aq, Int.mul_comm bq]
    have e1 : (l : Int).tdiv pa = ((l / pa : Nat) : Int) := by rw [Int.tdiv_eq_ediv_of_nonneg (by omega)]; rfl
    have e2 : (l : Int).tdiv pb = ((l / pb : Nat) : Int) := by rw [Int.tdiv_eq_ediv_of_nonneg (by omega)]; rfl
    have d1 : l / pa ≤ l := Nat.div_le_self _ _
    have d2 : l / pb ≤ l := Nat.div_le_self _ _
    generalize l / pa = k1 at *
    generalize l / pb = k2 at *
    have a5 := va.q0
    have a6 := va.q1
    have b5 := vb.q0
    have b6 := vb.q1
    have m1 := mul_bd (a := (k1 : Int)) (b := aq) (A := 120) (B := 1073741824) (by omega) (by omega) (by omega) (by omega)
    have m2 := mul_bd (a := (k2 : Int)) (b := bq) (A := 120) (B := 1073741824) (by omega) (by omega) (by omega) (by omega)
    refine ⟨by omega, ?_⟩
    rw [e1]
    repeat' (conv => whnf
             first
             | refine CondOb.mk (fun _ => ?_) (fun _ => ?_)
             | refine ArOb.fits (by first | omega | (simp only [ints_len] at *; omega)) ?_
             | refine LitOb.vec ?_
             | refine MakeOb.vec ?_
             | refine AllocOb.box ?_
             | refine AggOb.mk (by decide +kernel) ?_
             | refine ArU.fits (by first | omega | (simp only [ints_len] at *; omega)) ?_
             | refine ArB.fits (by first | omega | (simp only [ints_len] at *; omega)) ?_
             | refine CutOb.split ?_
             | refine Gh.mk [] ?_
             | refine And.intro (And.intro (by (simp only [List.length_append, List.length_take, List.length_drop, List.length_cons, List.length_nil, ints_len, List.length_replicate, Go.Cv.vals_len]; omega)) (by (simp only [List.length_append, List.length_take, List.length_drop, List.length_cons, List.length_nil, ints_len, List.length_replicate, Go.Cv.vals_len]; omega))) ?_
             | refine ⟨_, _, rfl, ints_get (by first | omega | (simp only [ints_len] at *; omega)), ?_⟩
             | refine ⟨_, _, (Int.toNat_of_nonneg (by first | omega | (simp only [ints_len] at *; omega))).symm, ints_get (by first | omega | (simp only [ints_len] at *; omega)), ?_⟩
             | refine DrawOb.mk [] (.qs [0, 1, 2, 3, 4, 5, 6, 7, 8, 9, 10, 11, 12, 13, 14, 15, 16, 17] (.l 18 [] .nil .no)) (by decide +kernel) ?_
             | fail)
    all_goals try (conv => whnf)
    refine ⟨by omega, ?_⟩
    rw [e2]
    repeat' (conv => whnf
             first
             | refine CondOb.mk (fun _ => ?_) (fun _ => ?_)
             | refine ArOb.fits (by first | omega | (simp only [ints_len] at *; omega)) ?_
             | refine LitOb.vec ?_
             | refine MakeOb.vec ?_
             | refine AllocOb.box ?_
             | refine AggOb.mk (by decide +kernel) ?_
             | refine ArU.fits (by first | omega | (simp only [ints_len] at *; omega)) ?_
             | refine ArB.fits (by first | omega | (simp only [ints_len] at *; omega)) ?_
             | refine CutOb.split ?_
             | refine Gh.mk [] ?_
             | refine And.intro (And.intro (by (simp only [List.length_append, List.length_take, List.length_drop, List.length_cons, List.length_nil, ints_len, List.length_replicate, Go.Cv.vals_len]; omega)) (by (simp only [List.length_append, List.length_take, List.length_drop, List.length_cons, List.length_nil, ints_len, List.length_replicate, Go.Cv.vals_len]; omega))) ?_
             | refine ⟨_, _, rfl, ints_get (by first | omega | (simp only [ints_len] at *; omega)), ?_⟩
             | refine ⟨_, _, (Int.toNat_of_nonneg (by first | omega | (simp only [ints_len] at *; omega))).symm, ints_get (by first | omega | (simp only [ints_len] at *; omega)), ?_⟩
             | refine DrawOb.mk [] (.qs [0, 1, 2, 3, 4, 5, 6, 7, 8, 9, 10, 11, 12, 13, 14, 15, 16, 17] (.l 18 [] .nil .no)) (by decide +kernel) ?_
             | fail)
    all_goals try (conv => whnf)
    refine ⟨rfl, .inr ⟨_, _, hP, by rw [hl]; omega, ?_⟩⟩
    unfold gap
    rw [hl, hd]
    rfl
end Go.Proofs.Ytppdpfaipkjpmaa
