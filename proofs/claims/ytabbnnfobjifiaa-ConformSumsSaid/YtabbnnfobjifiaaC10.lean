/-
  A text of the proofs of this seat: lemmas that the statements' proofs use; it states nothing of the program by itself beyond the contracts that its theorems bear. Conditions: those that stand in each theorem. Its short name: C10.
-/
import Derived.Test.YtabbnnfobjifiaaCm
import Derived.Test.YtabbnnfobjifiaaR10
import Derived.Test.YtabbnnfobjifiaaPl
set_option linter.unusedVariables false
set_option linter.unusedSimpArgs false
namespace Go.Proofs.Ytabbnnfobjifiaa
open Go.Sx Go.Pk Go.Cv Go.St
set_option maxRecDepth 8000
set_option maxHeartbeats 2000000
--APPX pks_len, Go.Cv.vals_len
theorem noinf {a : C3} (ha : VC a) {B : Int} (hB : B ≤ 1000000000) (h : ∀ t, cv a t ≤ B) (t : Nat) : ¬infAt a.1 t := fun hi => by
  have := ha.inf_clip t
  have h2 := h (min t 1000)
  rw [this.1 hi] at h2
  simp only [INF] at h2; omega
/- sums of curves that end flat -/
theorem SumK (f g : C3) (hf : VC f) (hg : VC g) (N : Nat) (hN : N ≤ 390) (pf : Per (cv f) N 1 0) (pg : Per (cv g) N 1 0) (bf : ∀ t, cv f t ≤ 500000000) (bg : ∀ t, cv g t ≤ 500000000) :
    Ctr Try.prog 24 [crv f.1 f.2.1 f.2.2, crv g.1 g.2.1 g.2.2] [] (fun r o => ∃ c : C3, (VC c ∧ ∀ t, cv c t = cv f t + cv g t) ∧ o = [] ∧ r = .tup [crv c.1 c.2.1 c.2.2, i64 0]) := by
  refine (CSum f g hf hg).mono fun r o ⟨x, ⟨a, b, na, nb, hx⟩, h1, h2⟩ => ?_
  have pa : a.2.1 = 1 := by
    obtain ⟨s, p1, _, hm, _⟩ := na.2
    have := hm N 1 0 (Nat.le_refl _) pf
    omega
  have pb : b.2.1 = 1 := by
    obtain ⟨s, p1, _, hm, _⟩ := nb.2
    have := hm N 1 0 (Nat.le_refl _) pg
    omega
  have hc : com a b = 1 := by unfold com; rw [pa, pb]; decide
  rcases hx with ⟨hh, _⟩ | ⟨_, hx⟩
  · omega
  · have e : pls a b = fun t => cv f t + cv g t := by
      funext t
      unfold pls
      rw [if_neg (fun h => by
        rcases h with h | h
        · exact noinf (B := 500000000) na.1 (by decide) (fun t => by rw [na.cv]; exact bf t) t h
        · exact noinf (B := 500000000) nb.1 (by decide) (fun t => by rw [nb.cv]; exact bg t) t h), na.cv, nb.cv]
    rw [e] at hx
    obtain ⟨c, vc, hcv, he⟩ := mk_fits (s := N) (p := 1) (q := 0) hx (by have := cv_nonneg hf 0; have := cv_nonneg hg 0; omega) (fun t => by
      have h1 := hf.mono' t
      have h2 := hg.mono' t
      have e1 : cv f t ≤ cv f (t + 1) := h1
      have e2 : cv g t ≤ cv g (t + 1) := h2
      show cv f t + cv g t ≤ cv f (t + 1) + cv g (t + 1)
      omega) (fun t ht => by
      have e1 := pf t ht
      have e2 := pg t ht
      show cv f (t + 1) + cv g (t + 1) = cv f t + cv g t + 0
      omega) (by omega) (by omega) (by omega) (by omega) (fun t _ => by have := bf t; have := bg t; omega)
    cases he
    exact ⟨c, ⟨vc, hcv⟩, h1, h2⟩
def sumF (p : List Pk) : Nat → Nat → Int
  | 0, _ => 0
  | i + 1, t => sumF p i t + lsF p i t
theorem sumF_facts {p : List Pk} (hv : Vld p) : ∀ i, Per (sumF p i) (endN p) 1 0 ∧ ∀ t, sumF p i t ≤ 60000000 * i
  | 0 => ⟨fun _ _ => rfl, fun _ => by simp [sumF]⟩
  | i + 1 => by
    obtain ⟨h1, h2⟩ := sumF_facts hv i
    refine ⟨fun t ht => ?_, fun t => ?_⟩
    · have e1 := h1 t ht
      have e2 := lsF_per p i t ht
      show sumF p i (t + 1) + lsF p i (t + 1) = sumF p i t + lsF p i t + 0
      omega
    · have e1 := h2 t
      have e2 := (lsF_le hv i t).2
      show sumF p i t + lsF p i t ≤ _
      push_cast; omega
theorem Sums_ok (l : List Int) (hl : l.length ≤ 9223372036854775807) : Ctr Try.prog 6 [.psl 1 (ints l)] [] (fun r o => r = .bl true) := by
  refine fn_intro (E := env 0) tys_ok rfl rfl rfl Try.func6 (by kernel_rfl) rfl (by kernel_rfl) ?_
  have hL : (l.take 2000).length ≤ 2000 := by rw [List.length_take]; omega
  repeat' (conv => whnf
           first | (refine CondOb.mk (fun _ => ?_) (fun _ => ?_) <;> first | (exfalso; omega) | skip) | refine ArOb.fits (by first | omega | (simp only [ints_len] at *; omega)) ?_ | refine LitOb.vec ?_ | refine MakeOb.vec ?_ | refine AllocOb.box ?_ | refine AsgOb.vec ?_ | refine AggOb.mk (by decide +kernel) ?_ | refine ArU.fits (by first | omega | (simp only [ints_len] at *; omega)) ?_ | refine ArB.fits (by first | omega | (simp only [ints_len] at *; omega)) ?_ | refine CutOb.split ?_ | refine Gh.mk [] ?_ | refine And.intro (And.intro (by (simp only [List.length_append, List.length_take, List.length_drop, List.length_cons, List.length_nil, ints_len, List.length_replicate, pks_len, Go.Cv.vals_len]; omega)) (by (simp only [List.length_append, List.length_take, List.length_drop, List.length_cons, List.length_nil, ints_len, List.length_replicate, pks_len, Go.Cv.vals_len]; omega))) ?_ | refine ⟨_, _, rfl, ints_get (by first | omega | (simp only [ints_len] at *; omega)), ?_⟩ | refine ⟨_, _, (Int.toNat_of_nonneg (by first | omega | (simp only [ints_len] at *; omega))).symm, ints_get (by first | omega | (simp only [ints_len] at *; omega)), ?_⟩ | (refine CallOb.mk [] (New_ok l hl) rfl (ImpL.refl _) rfl rfl ?_; rintro _ _ ⟨rfl, rfl⟩) | fail)
  all_goals try (conv => whnf)
  refine CallOb.mk [0] (Traffic_ok _ 0 hL (by omega) 12 (by omega) 3 9 (by omega) (by omega)) rfl (ImpL.refl _) rfl rfl ?_
  rintro _ _ ⟨⟨⟨p, tp⟩, k1⟩, ⟨⟨hP, hpl⟩, hk1⟩, rfl, rfl⟩
  dsimp only at hP hpl hk1 ⊢
  have hV := hP.vld (by decide) (by decide) (by omega)
  have hE : endN p ≤ 85 := by have := hP.end (by decide) (by decide) (by omega); omega
  repeat' (conv => whnf
           first | (refine CondOb.mk (fun _ => ?_) (fun _ => ?_) <;> first | (exfalso; omega) | skip) | refine ArOb.fits (by first | omega | (simp only [ints_len] at *; omega)) ?_ | refine LitOb.vec ?_ | refine MakeOb.vec ?_ | refine AllocOb.box ?_ | refine AsgOb.vec ?_ | refine AggOb.mk (by decide +kernel) ?_ | refine ArU.fits (by first | omega | (simp only [ints_len] at *; omega)) ?_ | refine ArB.fits (by first | omega | (simp only [ints_len] at *; omega)) ?_ | refine CutOb.split ?_ | refine Gh.mk [] ?_ | refine And.intro (And.intro (by (simp only [List.length_append, List.length_take, List.length_drop, List.length_cons, List.length_nil, ints_len, List.length_replicate, pks_len, Go.Cv.vals_len]; omega)) (by (simp only [List.length_append, List.length_take, List.length_drop, List.length_cons, List.length_nil, ints_len, List.length_replicate, pks_len, Go.Cv.vals_len]; omega))) ?_ | refine ⟨_, _, rfl, ints_get (by first | omega | (simp only [ints_len] at *; omega)), ?_⟩ | refine ⟨_, _, (Int.toNat_of_nonneg (by first | omega | (simp only [ints_len] at *; omega))).symm, ints_get (by first | omega | (simp only [ints_len] at *; omega)), ?_⟩ | (refine CallOb.mk [] (CFlat0) rfl (ImpL.refl _) rfl rfl ?_; rintro _ _ ⟨rfl, rfl⟩) | fail)
  all_goals try (conv => whnf)
  refine LoopOb.mk (Y := Nat × C3) (st := fun y => ⟨[(7, i64 y.1), (5, .ptr 0 0), (4, .psl 3 (pks p))], [.box [.psl 1 (ints y.2.1), i64 y.2.2.1, i64 y.2.2.2]]⟩)
    (inv := fun y => y.1 ≤ 3 ∧ VC y.2 ∧ ∀ t, cv y.2 t = sumF p y.1 t) (fun y => 3 - y.1) (0, exZ) [1] ⟨by simp, exZ_v, fun t => cv_exZ t⟩ (by dsimp only; (refine Le.mk (by kernel_rfl) ?_ ?_ <;> repeat' (first | exact True.intro | refine And.intro ?_ ?_ | exact Imp.refl _ | exact Imp.any _ | exact Imp.num (by first | omega | simp only [ints_len]) | exact rfl | exact Imp.bl (by simp)))) ?_
  rintro ⟨i, c⟩ ⟨hi, vc, hc⟩
  dsimp only at hi vc hc ⊢
  obtain ⟨f1, f2⟩ := sumF_facts hV i
  repeat' (conv => whnf
           first | refine ArOb.fits (by first | omega | (simp only [ints_len] at *; omega)) ?_ | refine LitOb.vec ?_ | refine MakeOb.vec ?_ | refine AllocOb.box ?_ | refine AsgOb.vec ?_ | refine AggOb.mk (by decide +kernel) ?_ | refine ArU.fits (by first | omega | (simp only [ints_len] at *; omega)) ?_ | refine ArB.fits (by first | omega | (simp only [ints_len] at *; omega)) ?_ | refine CutOb.split ?_ | refine Gh.mk [] ?_ | refine And.intro (And.intro (by (simp only [List.length_append, List.length_take, List.length_drop, List.length_cons, List.length_nil, ints_len, List.length_replicate, pks_len, Go.Cv.vals_len]; omega)) (by (simp only [List.length_append, List.length_take, List.length_drop, List.length_cons, List.length_nil, ints_len, List.length_replicate, pks_len, Go.Cv.vals_len]; omega))) ?_ | refine ⟨_, _, rfl, ints_get (by first | omega | (simp only [ints_len] at *; omega)), ?_⟩ | refine ⟨_, _, (Int.toNat_of_nonneg (by first | omega | (simp only [ints_len] at *; omega))).symm, ints_get (by first | omega | (simp only [ints_len] at *; omega)), ?_⟩ | fail)
  all_goals try (conv => whnf)
  refine CondOb.mk (fun hlt => ?_) (fun hlt => ?_)
  · have cL := cLeast_ok p hV (by omega) i (by omega)
    repeat' (conv => whnf
             first | (refine CondOb.mk (fun _ => ?_) (fun _ => ?_) <;> first | (exfalso; omega) | skip) | refine ArOb.fits (by first | omega | (simp only [ints_len] at *; omega)) ?_ | refine LitOb.vec ?_ | refine MakeOb.vec ?_ | refine AllocOb.box ?_ | refine AsgOb.vec ?_ | refine AggOb.mk (by decide +kernel) ?_ | refine ArU.fits (by first | omega | (simp only [ints_len] at *; omega)) ?_ | refine ArB.fits (by first | omega | (simp only [ints_len] at *; omega)) ?_ | refine CutOb.split ?_ | refine Gh.mk [] ?_ | refine And.intro (And.intro (by (simp only [List.length_append, List.length_take, List.length_drop, List.length_cons, List.length_nil, ints_len, List.length_replicate, pks_len, Go.Cv.vals_len]; omega)) (by (simp only [List.length_append, List.length_take, List.length_drop, List.length_cons, List.length_nil, ints_len, List.length_replicate, pks_len, Go.Cv.vals_len]; omega))) ?_ | refine ⟨_, _, rfl, ints_get (by first | omega | (simp only [ints_len] at *; omega)), ?_⟩ | refine ⟨_, _, (Int.toNat_of_nonneg (by first | omega | (simp only [ints_len] at *; omega))).symm, ints_get (by first | omega | (simp only [ints_len] at *; omega)), ?_⟩ | fail)
    all_goals try (conv => whnf)
    refine CallOb.mk [] cL rfl (ImpL.refl _) rfl rfl ?_
    rintro _ _ ⟨x, hx, rfl, rfl⟩
    obtain ⟨m, vm, hm, rfl⟩ := least_curve hV (by omega) i hx
    have cS := SumK c m vc vm (endN p) (by omega) (by rw [show cv c = sumF p i from funext hc]; exact f1) (by rw [show cv m = lsF p i from funext hm]; exact lsF_per p i)
      (fun t => by rw [hc]; have := f2 t; omega) (fun t => by rw [hm]; have := (lsF_le hV i t).2; omega)
    dsimp only [crvE]
    repeat' (conv => whnf
             first | (refine CondOb.mk (fun _ => ?_) (fun _ => ?_) <;> first | (exfalso; omega) | skip) | refine ArOb.fits (by first | omega | (simp only [ints_len] at *; omega)) ?_ | refine LitOb.vec ?_ | refine MakeOb.vec ?_ | refine AllocOb.box ?_ | refine AsgOb.vec ?_ | refine AggOb.mk (by decide +kernel) ?_ | refine ArU.fits (by first | omega | (simp only [ints_len] at *; omega)) ?_ | refine ArB.fits (by first | omega | (simp only [ints_len] at *; omega)) ?_ | refine CutOb.split ?_ | refine Gh.mk [] ?_ | refine And.intro (And.intro (by (simp only [List.length_append, List.length_take, List.length_drop, List.length_cons, List.length_nil, ints_len, List.length_replicate, pks_len, Go.Cv.vals_len]; omega)) (by (simp only [List.length_append, List.length_take, List.length_drop, List.length_cons, List.length_nil, ints_len, List.length_replicate, pks_len, Go.Cv.vals_len]; omega))) ?_ | refine ⟨_, _, rfl, ints_get (by first | omega | (simp only [ints_len] at *; omega)), ?_⟩ | refine ⟨_, _, (Int.toNat_of_nonneg (by first | omega | (simp only [ints_len] at *; omega))).symm, ints_get (by first | omega | (simp only [ints_len] at *; omega)), ?_⟩ | fail)
    all_goals try (conv => whnf)
    refine CallOb.mk [] cS rfl (ImpL.refl _) rfl rfl ?_
    rintro _ _ ⟨d, ⟨vd, hd⟩, rfl, rfl⟩
    repeat' (conv => whnf
             first | (refine CondOb.mk (fun _ => ?_) (fun _ => ?_) <;> first | (exfalso; omega) | skip) | refine ArOb.fits (by first | omega | (simp only [ints_len] at *; omega)) ?_ | refine LitOb.vec ?_ | refine MakeOb.vec ?_ | refine AllocOb.box ?_ | refine AsgOb.vec ?_ | refine AggOb.mk (by decide +kernel) ?_ | refine ArU.fits (by first | omega | (simp only [ints_len] at *; omega)) ?_ | refine ArB.fits (by first | omega | (simp only [ints_len] at *; omega)) ?_ | refine CutOb.split ?_ | refine Gh.mk [] ?_ | refine And.intro (And.intro (by (simp only [List.length_append, List.length_take, List.length_drop, List.length_cons, List.length_nil, ints_len, List.length_replicate, pks_len, Go.Cv.vals_len]; omega)) (by (simp only [List.length_append, List.length_take, List.length_drop, List.length_cons, List.length_nil, ints_len, List.length_replicate, pks_len, Go.Cv.vals_len]; omega))) ?_ | refine ⟨_, _, rfl, ints_get (by first | omega | (simp only [ints_len] at *; omega)), ?_⟩ | refine ⟨_, _, (Int.toNat_of_nonneg (by first | omega | (simp only [ints_len] at *; omega))).symm, ints_get (by first | omega | (simp only [ints_len] at *; omega)), ?_⟩ | fail)
    all_goals try (conv => whnf)
    refine ⟨(i + 1, d), [0], ⟨by dsimp only; omega, vd, fun t => by rw [hd, hc, hm]; rfl⟩, by dsimp only; omega, ?_⟩
    dsimp only
    (refine Le.mk (by kernel_rfl) ?_ ?_ <;> repeat' (first | exact True.intro | refine And.intro ?_ ?_ | exact Imp.refl _ | exact Imp.any _ | exact Imp.num (by first | omega | simp only [ints_len]) | exact rfl | exact Imp.bl (by simp)))
  · have e : i = 3 := by omega
    subst e
    have hk : Kp (csm p (-1)) (cv c) (endN p) := kp_sum hV (fun x hx => by have := hP.b x hx; omega) fun t => by
      rw [hc]
      show _ ≤ 0 + lsF p ((0 : Nat) : Int) t + lsF p ((1 : Nat) : Int) t + lsF p ((2 : Nat) : Int) t
      rw [Int.zero_add]
      exact Int.le_refl _
    have cK := Keeps_ok p hV (-1) (by decide) c vc
    repeat' (conv => whnf
             first | (refine CondOb.mk (fun _ => ?_) (fun _ => ?_) <;> first | (exfalso; omega) | skip) | refine ArOb.fits (by first | omega | (simp only [ints_len] at *; omega)) ?_ | refine LitOb.vec ?_ | refine MakeOb.vec ?_ | refine AllocOb.box ?_ | refine AsgOb.vec ?_ | refine AggOb.mk (by decide +kernel) ?_ | refine ArU.fits (by first | omega | (simp only [ints_len] at *; omega)) ?_ | refine ArB.fits (by first | omega | (simp only [ints_len] at *; omega)) ?_ | refine CutOb.split ?_ | refine Gh.mk [] ?_ | refine And.intro (And.intro (by (simp only [List.length_append, List.length_take, List.length_drop, List.length_cons, List.length_nil, ints_len, List.length_replicate, pks_len, Go.Cv.vals_len]; omega)) (by (simp only [List.length_append, List.length_take, List.length_drop, List.length_cons, List.length_nil, ints_len, List.length_replicate, pks_len, Go.Cv.vals_len]; omega))) ?_ | refine ⟨_, _, rfl, ints_get (by first | omega | (simp only [ints_len] at *; omega)), ?_⟩ | refine ⟨_, _, (Int.toNat_of_nonneg (by first | omega | (simp only [ints_len] at *; omega))).symm, ints_get (by first | omega | (simp only [ints_len] at *; omega)), ?_⟩ | (refine CallOb.mk [] cK rfl (ImpL.refl _) rfl rfl ?_; rintro _ _ ⟨rfl, rfl⟩) | (refine CallOb.mk [] (awake14_ok) rfl (ImpL.refl _) rfl rfl ?_; rintro _ _ ⟨rfl, rfl⟩) | fail)
    all_goals try (conv => whnf)
    all_goals first
      | rfl
      | exact absurd hk (by assumption)
      | trace_state
end Go.Proofs.Ytabbnnfobjifiaa
