/-
  A text of the proofs of this seat: lemmas that the statements' proofs use; it states nothing of the program by itself beyond the contracts that its theorems bear. Conditions: those that stand in each theorem. Its short name: W6.
-/
import Derived.Test.YtppdpfaipkjpmaaW5
set_option linter.unusedVariables false
set_option linter.unusedSimpArgs false
namespace Go.Proofs.Ytppdpfaipkjpmaa
open Go.Sx Go.Cv
set_option maxRecDepth 4000
set_option maxHeartbeats 2000000
def flatF (v : Int) (t : Nat) : Int := if t = 0 then 0 else v
theorem flatF_per (v : Int) : Per (flatF v) 1 1 0 := fun t ht => by unfold flatF; rw [if_neg (by omega), if_neg (by omega)]; omega
theorem flatF_mono {v : Int} (h : 0 ≤ v) : Mono (flatF v) := fun t => by unfold flatF; split <;> split <;> omega
theorem flatF_zero : flatF 0 = fun _ => 0 := funext fun t => by unfold flatF; split <;> rfl
def FlatQ (v : Int) (x : List Int × Int × Int × Int) : Prop :=
  (v < 0 ∧ x = ([], 0, 0, 2)) ∨ (0 ≤ v ∧ v ≤ 1073741824 ∧ MkP (flatF v) x) ∨ (1073741824 < v ∧ x = ([], 0, 0, 3))
theorem FlatC_ok (v : Int) (t : Nat) (hv : 0 ≤ v) (hv2 : v ≤ 1073741824) (ht : t ≤ 1000000) : Ctr Try.prog 60 [i64 t, .pptr [i64 v]] [] (fun r o => o = [] ∧ r = i64 (flatF v t)) := by
  refine fn_intro (E := env 0) tys_ok rfl rfl rfl Try.func60 (by kernel_rfl) rfl (by kernel_rfl) ?_
  repeat' (conv => whnf
           first
           | refine CondOb.mk (fun _ => ?_) (fun _ => ?_)
           | refine ArOb.fits (by first | omega | (simp only [ints_len] at *; omega)) ?_
           | refine LitOb.vec ?_
           | refine MakeOb.vec ?_
           | refine AllocOb.box ?_
           | refine AggOb.mk (by decide +kernel) ?_
           | refine ArU.fits (by first | omega | (simp only [ints_len] at *; omega)) ?_
           | refine ArB.fits (by first | omega | (simp only [ints_len] at *; omega)) ?_
           | refine CutOb.split ?_
           | refine Gh.mk [] ?_
           | refine And.intro (And.intro (by (simp only [List.length_append, List.length_take, List.length_drop, List.length_cons, List.length_nil, ints_len, List.length_replicate, Go.Cv.vals_len]; omega)) (by (simp only [List.length_append, List.length_take, List.length_drop, List.length_cons, List.length_nil, ints_len, List.length_replicate, Go.Cv.vals_len]; omega))) ?_
           | refine ⟨_, _, rfl, ints_get (by first | omega | (simp only [ints_len] at *; omega)), ?_⟩
           | refine ⟨_, _, (Int.toNat_of_nonneg (by first | omega | (simp only [ints_len] at *; omega))).symm, ints_get (by first | omega | (simp only [ints_len] at *; omega)), ?_⟩
           | fail)
  all_goals try (conv => whnf)
  have e : v * min (t : Int) 1 = flatF v t := by
    unfold flatF
    split
    · rename_i h; subst h; rw [show min ((0 : Nat) : Int) 1 = 0 by omega, Int.mul_zero]
    · rw [show min (t : Int) 1 = 1 by omega, Int.mul_one]
  rw [e]
  refine ArOb.fits (by unfold flatF; split <;> omega) ?_
  repeat' (conv => whnf
           first
           | refine CondOb.mk (fun _ => ?_) (fun _ => ?_)
           | refine ArOb.fits (by first | omega | (simp only [ints_len] at *; omega)) ?_
           | refine LitOb.vec ?_
           | refine MakeOb.vec ?_
           | refine AllocOb.box ?_
           | refine AggOb.mk (by decide +kernel) ?_
           | refine ArU.fits (by first | omega | (simp only [ints_len] at *; omega)) ?_
           | refine ArB.fits (by first | omega | (simp only [ints_len] at *; omega)) ?_
           | refine CutOb.split ?_
           | refine Gh.mk [] ?_
           | refine And.intro (And.intro (by (simp only [List.length_append, List.length_take, List.length_drop, List.length_cons, List.length_nil, ints_len, List.length_replicate, Go.Cv.vals_len]; omega)) (by (simp only [List.length_append, List.length_take, List.length_drop, List.length_cons, List.length_nil, ints_len, List.length_replicate, Go.Cv.vals_len]; omega))) ?_
           | refine ⟨_, _, rfl, ints_get (by first | omega | (simp only [ints_len] at *; omega)), ?_⟩
           | refine ⟨_, _, (Int.toNat_of_nonneg (by first | omega | (simp only [ints_len] at *; omega))).symm, ints_get (by first | omega | (simp only [ints_len] at *; omega)), ?_⟩
           | fail)
  all_goals try (conv => whnf)
  exact ⟨rfl, rfl⟩
theorem CFlat_ok (v : Int) : Ctr Try.prog 44 [i64 v] [] (fun r o => ∃ x : List Int × Int × Int × Int, FlatQ v x ∧ o = [] ∧ r = crvE x) := by
  refine Ctr.impE ?_
  refine fn_intro (E := env 0) tys_ok rfl rfl rfl Try.func44 (by kernel_rfl) rfl (by kernel_rfl) ?_
  repeat' (conv => whnf
           first
           | (refine CondOb.mk (fun _ => ?_) (fun _ => ?_) <;> first | (exfalso; omega) | skip)
           | refine ArOb.fits (by first | omega | (simp only [ints_len] at *; omega)) ?_
           | refine LitOb.vec ?_
           | refine MakeOb.vec ?_
           | refine AllocOb.box ?_
           | refine AggOb.mk (by decide +kernel) ?_
           | refine ArU.fits (by first | omega | (simp only [ints_len] at *; omega)) ?_
           | refine ArB.fits (by first | omega | (simp only [ints_len] at *; omega)) ?_
           | refine CutOb.split ?_
           | refine And.intro (And.intro (by (simp only [List.length_append, List.length_take, List.length_drop, List.length_cons, List.length_nil, ints_len, List.length_replicate, Go.Cv.vals_len]; omega)) (by (simp only [List.length_append, List.length_take, List.length_drop, List.length_cons, List.length_nil, ints_len, List.length_replicate, Go.Cv.vals_len]; omega))) ?_
           | refine ⟨_, _, rfl, ints_get (by first | omega | (simp only [ints_len] at *; omega)), ?_⟩
           | refine ⟨_, _, (Int.toNat_of_nonneg (by first | omega | (simp only [ints_len] at *; omega))).symm, ints_get (by first | omega | (simp only [ints_len] at *; omega)), ?_⟩
           | fail)
  all_goals try (conv => whnf)
  · refine .mk [] ?_
    exact ⟨([], 0, 0, 2), .inl ⟨by omega, rfl⟩, rfl, Imp.tup ⟨imp_zero, Imp.refl _, trivial⟩⟩
  · refine .mk [] ?_
    exact ⟨([], 0, 0, 3), .inr (.inr ⟨by omega, rfl⟩), rfl, Imp.tup ⟨imp_zero, Imp.refl _, trivial⟩⟩
  · refine .mk [.fb 0] ?_
    have hF : ∀ t, t ≤ 1 + 1 → 0 ≤ flatF v t ∧ flatF v t ≤ 4611686018427387904 := fun t _ => by unfold flatF; split <;> omega
    refine CallOb.mk [] (Build_ok 60 (.pptr [i64 v]) (flatF v) 1 1 0 (by omega) (by omega) (by omega) (by omega) hF
      (fun t ht => FlatC_ok v t (by omega) (by omega) (by omega)) (fun _ => flatF_per v)) rfl ?_ rfl rfl ?_
    · exact ⟨Imp.fn ⟨Imp.shut rfl, trivial⟩, Imp.refl _, Imp.refl _, Imp.refl _, trivial⟩
    rintro _ _ ⟨x, hx, rfl, rfl⟩
    repeat' (conv => whnf
             first
             | refine CondOb.mk (fun _ => ?_) (fun _ => ?_)
             | refine ArOb.fits (by first | omega | (simp only [ints_len] at *; omega)) ?_
             | refine LitOb.vec ?_
             | refine MakeOb.vec ?_
             | refine AllocOb.box ?_
             | refine AggOb.mk (by decide +kernel) ?_
             | refine ArU.fits (by first | omega | (simp only [ints_len] at *; omega)) ?_
             | refine ArB.fits (by first | omega | (simp only [ints_len] at *; omega)) ?_
             | refine CutOb.split ?_
             | refine Gh.mk [] ?_
             | refine And.intro (And.intro (by (simp only [List.length_append, List.length_take, List.length_drop, List.length_cons, List.length_nil, ints_len, List.length_replicate, Go.Cv.vals_len]; omega)) (by (simp only [List.length_append, List.length_take, List.length_drop, List.length_cons, List.length_nil, ints_len, List.length_replicate, Go.Cv.vals_len]; omega))) ?_
             | refine ⟨_, _, rfl, ints_get (by first | omega | (simp only [ints_len] at *; omega)), ?_⟩
             | refine ⟨_, _, (Int.toNat_of_nonneg (by first | omega | (simp only [ints_len] at *; omega))).symm, ints_get (by first | omega | (simp only [ints_len] at *; omega)), ?_⟩
             | fail)
    all_goals try (conv => whnf)
    refine ⟨x, .inr (.inl ⟨by omega, by omega, buildP_mk (hF 0 (by omega)).1 (flatF_mono (by omega)) (fun t ht => (hF t (by omega)).2) (fun m _ h => ?_) hx⟩), rfl, Imp.refl _⟩
    exfalso; unfold flatF at h; split at h <;> (simp only [INF] at h; omega)
def AboveP (vs : List Int) (p q : Int) (ws : List Int) (p' q' : Int) (x : List Int × Int × Int × Int) : Prop :=
  (∃ e, PrepE vs p q ws p' q' e ∧ x = ([], 0, 0, e)) ∨
  (∃ a b, Prep vs p q ws p' q' a b ∧ com a b ≤ 120 ∧ ((¬(FinC b ∧ (FinC a → 0 ≤ drf a b)) ∧ MkP (fun _ => 0) x) ∨ ((FinC b ∧ (FinC a → 0 ≤ drf a b)) ∧ MkP (amn a b) x)))
theorem AboveC_ok (F : Nat → Int) (N t : Nat) (h : t < N) (hN : N ≤ 1000000) : Ctr Try.prog 45 [i64 t, .pptr [.psl 1 (ints (vals F N))]] [] (fun r o => o = [] ∧ r = i64 (F t)) := by
  refine fn_intro (E := env 0) tys_ok rfl rfl rfl Try.func45 (by kernel_rfl) rfl (by kernel_rfl) ?_
  repeat' (conv => whnf
           first
           | refine CondOb.mk (fun _ => ?_) (fun _ => ?_)
           | refine ArOb.fits (by first | omega | (simp only [ints_len] at *; omega)) ?_
           | refine LitOb.vec ?_
           | refine MakeOb.vec ?_
           | refine AllocOb.box ?_
           | refine AggOb.mk (by decide +kernel) ?_
           | refine ArU.fits (by first | omega | (simp only [ints_len] at *; omega)) ?_
           | refine ArB.fits (by first | omega | (simp only [ints_len] at *; omega)) ?_
           | refine CutOb.split ?_
           | refine Gh.mk [] ?_
           | refine And.intro (And.intro (by (simp only [List.length_append, List.length_take, List.length_drop, List.length_cons, List.length_nil, ints_len, List.length_replicate, Go.Cv.vals_len]; omega)) (by (simp only [List.length_append, List.length_take, List.length_drop, List.length_cons, List.length_nil, ints_len, List.length_replicate, Go.Cv.vals_len]; omega))) ?_
           | refine ⟨_, _, rfl, ints_get (by first | omega | (simp only [ints_len] at *; omega)), ?_⟩
           | refine ⟨_, _, (Int.toNat_of_nonneg (by first | omega | (simp only [ints_len] at *; omega))).symm, ints_get (by first | omega | (simp only [ints_len] at *; omega)), ?_⟩
           | fail)
  all_goals try (conv => whnf)
  refine ⟨t, _, rfl, ints_get (by rw [vals_len]; exact h), ?_⟩
  rw [vals_get h]
  repeat' (conv => whnf
           first
           | refine CondOb.mk (fun _ => ?_) (fun _ => ?_)
           | refine ArOb.fits (by first | omega | (simp only [ints_len] at *; omega)) ?_
           | refine LitOb.vec ?_
           | refine MakeOb.vec ?_
           | refine AllocOb.box ?_
           | refine AggOb.mk (by decide +kernel) ?_
           | refine ArU.fits (by first | omega | (simp only [ints_len] at *; omega)) ?_
           | refine ArB.fits (by first | omega | (simp only [ints_len] at *; omega)) ?_
           | refine CutOb.split ?_
           | refine Gh.mk [] ?_
           | refine And.intro (And.intro (by (simp only [List.length_append, List.length_take, List.length_drop, List.length_cons, List.length_nil, ints_len, List.length_replicate, Go.Cv.vals_len]; omega)) (by (simp only [List.length_append, List.length_take, List.length_drop, List.length_cons, List.length_nil, ints_len, List.length_replicate, Go.Cv.vals_len]; omega))) ?_
           | refine ⟨_, _, rfl, ints_get (by first | omega | (simp only [ints_len] at *; omega)), ?_⟩
           | refine ⟨_, _, (Int.toNat_of_nonneg (by first | omega | (simp only [ints_len] at *; omega))).symm, ints_get (by first | omega | (simp only [ints_len] at *; omega)), ?_⟩
           | fail)
  all_goals try (conv => whnf)
  exact ⟨rfl, rfl⟩
def rdn (V : Nat → Int) (t N : Nat) : List Int := List.replicate t 0 ++ (vals V N).drop t
theorem rdn_len (V : Nat → Int) {t N : Nat} (h : t ≤ N) : (rdn V t N).length = N := by simp [rdn, vals_len]; omega
theorem rdn_set (V : Nat → Int) {t N : Nat} (h : t < N) : (ints (rdn V (t + 1) N)).set t [i64 (V t)] = ints (rdn V t N) := by
  have e : (vals V N).drop t = V t :: (vals V N).drop (t + 1) := by
    rw [List.drop_eq_getElem_cons (by rw [vals_len]; exact h)]
    simp [vals]
  simp only [rdn, e, List.replicate_succ', ints, List.map_append, List.map_cons, List.map_replicate]
  rw [List.append_assoc, List.set_append_right _ _ (by simp)]
  simp
theorem rdn_full (V : Nat → Int) (N : Nat) : rdn V 0 N = vals V N := by simp [rdn]
theorem rdn_zero (V : Nat → Int) (N : Nat) : ints (rdn V N N) = List.replicate N [i64 0] := by
  have : (vals V N).drop N = [] := List.drop_eq_nil_of_le (by rw [vals_len]; omega)
  simp [rdn, this, ints]
def lst (d : Nat → Int) (L t : Nat) : Int := if t = L then INF else wmn d (L - (t + 1)) (t + 1)
theorem lst_step {d : Nat → Int} {L t : Nat} (ht : t ≤ L) (hd : d L ≤ INF) : wmn d (L - t) t = min (lst d L t) (d t) := by
  unfold lst
  split
  · rename_i h; subst h; rw [Nat.sub_self]; simp only [wmn]; omega
  · rw [show L - t = L - (t + 1) + 1 by omega]; simp only [wmn]; omega
theorem Above_ok (vs : List Int) (p q : Int) (ws : List Int) (p' q' : Int) (hv : vs.length ≤ 140737488355328) (hw : ws.length ≤ 140737488355328) :
    Ctr Try.prog 19 [crv vs p q, crv ws p' q'] [] (fun r o => ∃ x : List Int × Int × Int × Int, AboveP vs p q ws p' q' x ∧ o = [] ∧ r = crvE x) := by
  refine Ctr.impE ?_
  refine fn_intro (E := env 0) tys_ok rfl rfl rfl Try.func19 (by kernel_rfl) rfl (by kernel_rfl) ?_
  repeat' (conv => whnf
           first
           | refine CondOb.mk (fun _ => ?_) (fun _ => ?_)
           | refine ArOb.fits (by first | omega | (simp only [ints_len] at *; omega)) ?_
           | refine LitOb.vec ?_
           | refine MakeOb.vec ?_
           | refine AllocOb.box ?_
           | refine AggOb.mk (by decide +kernel) ?_
           | refine ArU.fits (by first | omega | (simp only [ints_len] at *; omega)) ?_
           | refine ArB.fits (by first | omega | (simp only [ints_len] at *; omega)) ?_
           | refine CutOb.split ?_
           | refine Gh.mk [] ?_
           | refine And.intro (And.intro (by (simp only [List.length_append, List.length_take, List.length_drop, List.length_cons, List.length_nil, ints_len, List.length_replicate, Go.Cv.vals_len]; omega)) (by (simp only [List.length_append, List.length_take, List.length_drop, List.length_cons, List.length_nil, ints_len, List.length_replicate, Go.Cv.vals_len]; omega))) ?_
           | refine ⟨_, _, rfl, ints_get (by first | omega | (simp only [ints_len] at *; omega)), ?_⟩
           | refine ⟨_, _, (Int.toNat_of_nonneg (by first | omega | (simp only [ints_len] at *; omega))).symm, ints_get (by first | omega | (simp only [ints_len] at *; omega)), ?_⟩
           | fail)
  all_goals try (conv => whnf)
  refine CallOb.mk [] (both_ok vs p q ws p' q' hv hw) rfl (ImpL.refl _) rfl rfl ?_
  rintro _ _ ⟨rfl, ⟨e, he, rfl⟩ | ⟨a, b, hP, hc, rfl⟩⟩
  · have he0 : e = 1 ∨ e = 3 := by rcases he with ⟨h, _⟩ | ⟨h, _⟩ <;> simp [h]
    repeat' (conv => whnf
             first
             | (refine CondOb.mk (fun _ => ?_) (fun _ => ?_) <;> first | (exfalso; omega) | skip)
             | refine ArOb.fits (by first | omega | (simp only [ints_len] at *; omega)) ?_
             | refine LitOb.vec ?_
             | refine MakeOb.vec ?_
             | refine AllocOb.box ?_
             | refine AggOb.mk (by decide +kernel) ?_
             | refine ArU.fits (by first | omega | (simp only [ints_len] at *; omega)) ?_
             | refine ArB.fits (by first | omega | (simp only [ints_len] at *; omega)) ?_
             | refine CutOb.split ?_
             | refine Gh.mk [] ?_
             | refine And.intro (And.intro (by (simp only [List.length_append, List.length_take, List.length_drop, List.length_cons, List.length_nil, ints_len, List.length_replicate, Go.Cv.vals_len]; omega)) (by (simp only [List.length_append, List.length_take, List.length_drop, List.length_cons, List.length_nil, ints_len, List.length_replicate, Go.Cv.vals_len]; omega))) ?_
             | refine ⟨_, _, rfl, ints_get (by first | omega | (simp only [ints_len] at *; omega)), ?_⟩
             | refine ⟨_, _, (Int.toNat_of_nonneg (by first | omega | (simp only [ints_len] at *; omega))).symm, ints_get (by first | omega | (simp only [ints_len] at *; omega)), ?_⟩
             | fail)
    all_goals try (conv => whnf)
    exact ⟨([], 0, 0, e), .inl ⟨e, he, rfl⟩, rfl, Imp.tup ⟨imp_zero, Imp.refl _, trivial⟩⟩
  · have va := hP.va
    have vb := hP.vb
    have f1 := frm_le va vb
    have c1 := com_pos va vb
    have a1 := va.n1
    have a2 := va.n2
    have b1 := vb.n1
    have b2 := vb.n2
    repeat' (conv => whnf
             first
             | (refine CondOb.mk (fun _ => ?_) (fun _ => ?_) <;> first | (exfalso; omega) | skip)
             | refine ArOb.fits (by first | omega | (simp only [ints_len] at *; omega)) ?_
             | refine LitOb.vec ?_
             | refine MakeOb.vec ?_
             | refine AllocOb.box ?_
             | refine AggOb.mk (by decide +kernel) ?_
             | refine ArU.fits (by first | omega | (simp only [ints_len] at *; omega)) ?_
             | refine ArB.fits (by first | omega | (simp only [ints_len] at *; omega)) ?_
             | refine Gh.mk [] ?_
             | refine And.intro (And.intro (by (simp only [List.length_append, List.length_take, List.length_drop, List.length_cons, List.length_nil, ints_len, List.length_replicate, Go.Cv.vals_len]; omega)) (by (simp only [List.length_append, List.length_take, List.length_drop, List.length_cons, List.length_nil, ints_len, List.length_replicate, Go.Cv.vals_len]; omega))) ?_
             | refine ⟨_, _, rfl, ints_get (by first | omega | (simp only [ints_len] at *; omega)), ?_⟩
             | refine ⟨_, _, (Int.toNat_of_nonneg (by first | omega | (simp only [ints_len] at *; omega))).symm, ints_get (by first | omega | (simp only [ints_len] at *; omega)), ?_⟩
             | refine DrawOb.mk [] (.qs [0, 1, 3, 4] (.l 2 [4] (.l 5 [] (.qs [6, 7] .nil) .no) .no)) (by decide +kernel) ?_
             | refine DrawOb.mk [] (.qs [0, 1, 2, 3, 4, 5, 6, 7, 8, 9] .nil) (by decide +kernel) ?_
             | (refine CallOb.mk [] (WFinite_ok a.1 a.2.1 a.2.2 a1 (by omega)) rfl (ImpL.refl _) rfl rfl ?_; rintro _ _ ⟨rfl, rfl⟩)
             | (refine CallOb.mk [] (WFinite_ok b.1 b.2.1 b.2.2 b1 (by omega)) rfl (ImpL.refl _) rfl rfl ?_; rintro _ _ ⟨rfl, rfl⟩)
             | fail)
    all_goals try (conv => whnf)
    refine CutOb.cut (Y := Unit) (st := fun _ => ⟨[(8, .bp (FinP a.1)), (6, .ptr 0 0), (4, .ptr 1 0)], [.box (gap a b), .box [.nil, i64 0, i64 0]]⟩)
      (inv := fun _ => FinC b ∧ (FinC a → 0 ≤ drf a b)) ?_ ?_
    · repeat' (conv => whnf
               first
               | (refine CondOb.mk (fun _ => ?_) (fun _ => ?_) <;> first | (exfalso; omega) | skip)
               | refine ArOb.fits (by first | omega | (simp only [ints_len] at *; omega)) ?_
               | refine LitOb.vec ?_
               | refine MakeOb.vec ?_
               | refine AllocOb.box ?_
               | refine AggOb.mk (by decide +kernel) ?_
               | refine ArU.fits (by first | omega | (simp only [ints_len] at *; omega)) ?_
               | refine ArB.fits (by first | omega | (simp only [ints_len] at *; omega)) ?_
               | refine CutOb.split ?_
               | refine Gh.mk [] ?_
               | refine And.intro (And.intro (by (simp only [List.length_append, List.length_take, List.length_drop, List.length_cons, List.length_nil, ints_len, List.length_replicate, Go.Cv.vals_len]; omega)) (by (simp only [List.length_append, List.length_take, List.length_drop, List.length_cons, List.length_nil, ints_len, List.length_replicate, Go.Cv.vals_len]; omega))) ?_
               | refine ⟨_, _, rfl, ints_get (by first | omega | (simp only [ints_len] at *; omega)), ?_⟩
               | refine ⟨_, _, (Int.toNat_of_nonneg (by first | omega | (simp only [ints_len] at *; omega))).symm, ints_get (by first | omega | (simp only [ints_len] at *; omega)), ?_⟩
               | refine DrawOb.mk [] (.qs [0, 1, 3, 4] (.l 2 [4] (.l 5 [] (.qs [6, 7] .nil) .no) .no)) (by decide +kernel) ?_
               | refine DrawOb.mk [] (.qs [0, 1, 2, 3, 4, 5, 6, 7, 8, 9] .nil) (by decide +kernel) ?_
               | fail)
      all_goals try (conv => whnf)
      all_goals first
        | (refine CallOb.mk [] (CFlat_ok 0) rfl (ImpL.refl _) rfl rfl ?_
           rintro _ _ ⟨x, hx, rfl, rfl⟩
           repeat' (conv => whnf
                    first
                    | refine CondOb.mk (fun _ => ?_) (fun _ => ?_)
                    | refine ArOb.fits (by first | omega | (simp only [ints_len] at *; omega)) ?_
                    | refine LitOb.vec ?_
                    | refine MakeOb.vec ?_
                    | refine AllocOb.box ?_
                    | refine AggOb.mk (by decide +kernel) ?_
                    | refine ArU.fits (by first | omega | (simp only [ints_len] at *; omega)) ?_
                    | refine ArB.fits (by first | omega | (simp only [ints_len] at *; omega)) ?_
                    | refine CutOb.split ?_
                    | refine Gh.mk [] ?_
                    | refine And.intro (And.intro (by (simp only [List.length_append, List.length_take, List.length_drop, List.length_cons, List.length_nil, ints_len, List.length_replicate, Go.Cv.vals_len]; omega)) (by (simp only [List.length_append, List.length_take, List.length_drop, List.length_cons, List.length_nil, ints_len, List.length_replicate, Go.Cv.vals_len]; omega))) ?_
                    | refine ⟨_, _, rfl, ints_get (by first | omega | (simp only [ints_len] at *; omega)), ?_⟩
                    | refine ⟨_, _, (Int.toNat_of_nonneg (by first | omega | (simp only [ints_len] at *; omega))).symm, ints_get (by first | omega | (simp only [ints_len] at *; omega)), ?_⟩
                    | fail)
           all_goals try (conv => whnf)
           refine ⟨x, .inr ⟨a, b, hP, hc, .inl ⟨fun h => ?_, ?_⟩⟩, rfl, Imp.refl _⟩
           · first
               | exact absurd h.1 (by assumption)
               | (have := h.2 (by assumption); omega)
           · rw [← flatF_zero]
             rcases hx with ⟨h, _⟩ | ⟨_, _, h⟩ | ⟨h, _⟩
             · omega
             · exact h
             · omega)
        | (refine ⟨(), [3, 2], ⟨Classical.not_not.1 (by assumption), fun h => ?_⟩, (by refine Le.mk (by kernel_rfl) ?_ ?_ <;> repeat' (first | exact True.intro | refine And.intro ?_ ?_ | exact Imp.refl _ | exact Imp.num (by simp only; omega) | exact rfl))⟩
           first
             | omega
             | exact absurd h (by assumption))
    · rintro _ ⟨fb, hdr⟩
      repeat' (conv => whnf
               first
               | (refine CondOb.mk (fun _ => ?_) (fun _ => ?_) <;> first | (exfalso; omega) | skip)
               | refine ArOb.fits (by first | omega | (simp only [ints_len] at *; omega)) ?_
               | refine LitOb.vec ?_
               | refine MakeOb.vec ?_
               | refine AllocOb.box ?_
               | refine AggOb.mk (by decide +kernel) ?_
               | refine ArU.fits (by first | omega | (simp only [ints_len] at *; omega)) ?_
               | refine ArB.fits (by first | omega | (simp only [ints_len] at *; omega)) ?_
               | refine Gh.mk [] ?_
               | refine And.intro (And.intro (by (simp only [List.length_append, List.length_take, List.length_drop, List.length_cons, List.length_nil, ints_len, List.length_replicate, Go.Cv.vals_len]; omega)) (by (simp only [List.length_append, List.length_take, List.length_drop, List.length_cons, List.length_nil, ints_len, List.length_replicate, Go.Cv.vals_len]; omega))) ?_
               | refine ⟨_, _, rfl, ints_get (by first | omega | (simp only [ints_len] at *; omega)), ?_⟩
               | refine ⟨_, _, (Int.toNat_of_nonneg (by first | omega | (simp only [ints_len] at *; omega))).symm, ints_get (by first | omega | (simp only [ints_len] at *; omega)), ?_⟩
               | refine DrawOb.mk [] (.qs [0, 1, 3, 4] (.l 2 [4] (.l 5 [] (.qs [6, 7] .nil) .no) .no)) (by decide +kernel) ?_
               | refine DrawOb.mk [] (.qs [0, 1, 2, 3, 4, 5, 6, 7, 8, 9] .nil) (by decide +kernel) ?_
               | fail)
      all_goals try (conv => whnf)
      refine CutOb.cut (Y := Nat × Nat × Int) (st := fun y => ⟨[(12, i64 y.2.2), (11, i64 y.2.1), (10, i64 y.1), (6, .ptr 0 0), (4, .ptr 1 0)], [.box (gap a b), .box [.nil, i64 0, i64 0]]⟩)
        (inv := fun y => (y = (frm a b, 1, 0) ∧ (FinC a → drf a b = 0)) ∨ (y = (400, com a b, drf a b) ∧ FinC a ∧ 0 < drf a b)) ?_ ?_
      · repeat' (conv => whnf
                 first
                 | (refine CondOb.mk (fun _ => ?_) (fun _ => ?_) <;> first | (exfalso; omega) | skip)
                 | refine ArOb.fits (by first | omega | (simp only [ints_len] at *; omega)) ?_
                 | refine LitOb.vec ?_
                 | refine MakeOb.vec ?_
                 | refine AllocOb.box ?_
                 | refine AggOb.mk (by decide +kernel) ?_
                 | refine ArU.fits (by first | omega | (simp only [ints_len] at *; omega)) ?_
                 | refine ArB.fits (by first | omega | (simp only [ints_len] at *; omega)) ?_
                 | refine CutOb.split ?_
                 | refine Gh.mk [] ?_
                 | refine And.intro (And.intro (by (simp only [List.length_append, List.length_take, List.length_drop, List.length_cons, List.length_nil, ints_len, List.length_replicate, Go.Cv.vals_len]; omega)) (by (simp only [List.length_append, List.length_take, List.length_drop, List.length_cons, List.length_nil, ints_len, List.length_replicate, Go.Cv.vals_len]; omega))) ?_
                 | refine ⟨_, _, rfl, ints_get (by first | omega | (simp only [ints_len] at *; omega)), ?_⟩
                 | refine ⟨_, _, (Int.toNat_of_nonneg (by first | omega | (simp only [ints_len] at *; omega))).symm, ints_get (by first | omega | (simp only [ints_len] at *; omega)), ?_⟩
                 | refine DrawOb.mk [] (.qs [0, 1, 3, 4] (.l 2 [4] (.l 5 [] (.qs [6, 7] .nil) .no) .no)) (by decide +kernel) ?_
                 | refine DrawOb.mk [] (.qs [0, 1, 2, 3, 4, 5, 6, 7, 8, 9] .nil) (by decide +kernel) ?_
                 | fail)
        all_goals try (conv => whnf)
        · exact ⟨_, [0, 1], .inr ⟨rfl, by assumption, by assumption⟩, (by refine Le.mk (by kernel_rfl) ?_ ?_ <;> repeat' (first | exact True.intro | refine And.intro ?_ ?_ | exact Imp.refl _ | exact Imp.num (by simp only; omega) | exact rfl))⟩
        all_goals exact ⟨_, [0, 1], .inl ⟨rfl, fun h => (by
            have h1 := hdr h
            first
              | omega
              | exact absurd h (by assumption))⟩, (by refine Le.mk (by kernel_rfl) ?_ ?_ <;> repeat' (first | exact True.intro | refine And.intro ?_ ?_ | exact Imp.refl _ | exact Imp.num (by simp only; omega) | exact rfl))⟩
      · rintro ⟨s, n, inc⟩ hy
        have hb : s ≤ 400 ∧ 1 ≤ n ∧ n ≤ 120 ∧ frm a b ≤ s ∧ 0 ≤ inc ∧ n ≤ com a b := by
          rcases hy with ⟨h, _⟩ | ⟨h, _, h1⟩
          · cases h; omega
          · cases h; omega
        repeat' (conv => whnf
                 first
                 | (refine CondOb.mk (fun _ => ?_) (fun _ => ?_) <;> first | (exfalso; omega) | skip)
                 | refine ArOb.fits (by first | omega | (simp only [ints_len] at *; omega)) ?_
                 | refine LitOb.vec ?_
                 | refine MakeOb.vec ?_
                 | refine AllocOb.box ?_
                 | refine AggOb.mk (by decide +kernel) ?_
                 | refine ArU.fits (by first | omega | (simp only [ints_len] at *; omega)) ?_
                 | refine ArB.fits (by first | omega | (simp only [ints_len] at *; omega)) ?_
                 | refine CutOb.split ?_
                 | refine Gh.mk [] ?_
                 | refine And.intro (And.intro (by (simp only [List.length_append, List.length_take, List.length_drop, List.length_cons, List.length_nil, ints_len, List.length_replicate, Go.Cv.vals_len]; omega)) (by (simp only [List.length_append, List.length_take, List.length_drop, List.length_cons, List.length_nil, ints_len, List.length_replicate, Go.Cv.vals_len]; omega))) ?_
                 | refine ⟨_, _, rfl, ints_get (by first | omega | (simp only [ints_len] at *; omega)), ?_⟩
                 | refine ⟨_, _, (Int.toNat_of_nonneg (by first | omega | (simp only [ints_len] at *; omega))).symm, ints_get (by first | omega | (simp only [ints_len] at *; omega)), ?_⟩
                 | refine DrawOb.mk [] (.qs [0, 1, 3, 4] (.l 2 [4] (.l 5 [] (.qs [6, 7] .nil) .no) .no)) (by decide +kernel) ?_
                 | refine DrawOb.mk [] (.qs [0, 1, 2, 3, 4, 5, 6, 7, 8, 9] .nil) (by decide +kernel) ?_
                 | fail)
        all_goals try (conv => whnf)
        generalize hL : s + n + com a b = L at *
        have hLi : (s : Int) + n + com a b = L := by omega
        simp only [hLi]
        refine ⟨L + 1, L + 1, by push_cast; rfl, by push_cast; rfl, Nat.le_refl _, ⟨by omega, by omega⟩, ?_⟩
        repeat' (conv => whnf
                 first
                 | (refine CondOb.mk (fun _ => ?_) (fun _ => ?_) <;> first | (exfalso; omega) | skip)
                 | refine ArOb.fits (by first | omega | (simp only [ints_len] at *; omega)) ?_
                 | refine LitOb.vec ?_
                 | refine MakeOb.vec ?_
                 | refine AllocOb.box ?_
                 | refine AggOb.mk (by decide +kernel) ?_
                 | refine ArU.fits (by first | omega | (simp only [ints_len] at *; omega)) ?_
                 | refine ArB.fits (by first | omega | (simp only [ints_len] at *; omega)) ?_
                 | refine CutOb.split ?_
                 | refine Gh.mk [] ?_
                 | refine And.intro (And.intro (by (simp only [List.length_append, List.length_take, List.length_drop, List.length_cons, List.length_nil, ints_len, List.length_replicate, Go.Cv.vals_len]; omega)) (by (simp only [List.length_append, List.length_take, List.length_drop, List.length_cons, List.length_nil, ints_len, List.length_replicate, Go.Cv.vals_len]; omega))) ?_
                 | refine ⟨_, _, rfl, ints_get (by first | omega | (simp only [ints_len] at *; omega)), ?_⟩
                 | refine ⟨_, _, (Int.toNat_of_nonneg (by first | omega | (simp only [ints_len] at *; omega))).symm, ints_get (by first | omega | (simp only [ints_len] at *; omega)), ?_⟩
                 | refine DrawOb.mk [] (.qs [0, 1, 3, 4] (.l 2 [4] (.l 5 [] (.qs [6, 7] .nil) .no) .no)) (by decide +kernel) ?_
                 | refine DrawOb.mk [] (.qs [0, 1, 2, 3, 4, 5, 6, 7, 8, 9] .nil) (by decide +kernel) ?_
                 | fail)
        all_goals try (conv => whnf)
        have hdl : ∀ t, t ≤ L → dif a b t ≤ INF := fun t ht => dif_le va vb (by omega)
        have hV : ∀ t, t < s + n → max 0 (wmn (dif a b) (L - t) t) = amn a b t := fun t ht => by
          unfold amn; rw [wmn_any va vb fb hdr (by omega)]
        refine LoopOb.mk (Y := Nat) (st := fun t => ⟨[(16, i64 t), (15, i64 (lst (dif a b) L t)), (14, .ptr 3 0), (12, i64 inc), (11, i64 n), (10, i64 s), (6, .ptr 0 0), (4, .ptr 1 0)], [.box (gap a b), .box [.nil, i64 0, i64 0], .vec 1 (ints (rdn (fun t => max 0 (wmn (dif a b) (L - t) t)) (t + 1) (L + 1))), .box [.vec 2]]⟩)
          (inv := fun t => t ≤ L ∧ (t < s → 0 < inc → 0 ≤ wmn (dif a b) (L - s) s)) (fun t => t) L [0, 1, 2, 3] ⟨by omega, fun h => by omega⟩
          (by refine Le.mk (by kernel_rfl) ?_ ?_ <;> repeat' (first | exact True.intro | refine And.intro ?_ ?_ | exact Imp.refl _ | exact Imp.any _ | exact Imp.num (by simp [lst]) | exact rfl | exact (rdn_zero _ _).symm)) ?_
        rintro t ⟨h1, h2⟩
        have hl : (rdn (fun t => max 0 (wmn (dif a b) (L - t) t)) (t + 1) (L + 1)).length = L + 1 := rdn_len _ (by omega)
        have hst := lst_step (d := dif a b) h1 (hdl L (Nat.le_refl _))
        repeat' (conv => whnf
                 first
                 | (refine CondOb.mk (fun _ => ?_) (fun _ => ?_) <;> first | (exfalso; omega) | skip)
                 | refine ArOb.fits (by first | omega | (simp only [ints_len] at *; omega)) ?_
                 | refine LitOb.vec ?_
                 | refine MakeOb.vec ?_
                 | refine AllocOb.box ?_
                 | refine AggOb.mk (by decide +kernel) ?_
                 | refine ArU.fits (by first | omega | (simp only [ints_len] at *; omega)) ?_
                 | refine ArB.fits (by first | omega | (simp only [ints_len] at *; omega)) ?_
                 | refine CutOb.split ?_
                 | refine And.intro (And.intro (by (simp only [List.length_append, List.length_take, List.length_drop, List.length_cons, List.length_nil, ints_len, List.length_replicate, Go.Cv.vals_len]; omega)) (by (simp only [List.length_append, List.length_take, List.length_drop, List.length_cons, List.length_nil, ints_len, List.length_replicate, Go.Cv.vals_len]; omega))) ?_
                 | refine ⟨_, _, rfl, ints_get (by first | omega | (simp only [ints_len] at *; omega)), ?_⟩
                 | refine ⟨_, _, (Int.toNat_of_nonneg (by first | omega | (simp only [ints_len] at *; omega))).symm, ints_get (by first | omega | (simp only [ints_len] at *; omega)), ?_⟩
                 | refine DrawOb.mk [] (.qs [0, 1, 3, 4] (.l 2 [4] (.l 5 [] (.qs [6, 7] .nil) .no) .no)) (by decide +kernel) ?_
                 | refine DrawOb.mk [] (.qs [0, 1, 2, 3, 4, 5, 6, 7, 8, 9] .nil) (by decide +kernel) ?_
                 | fail)
        all_goals try (conv => whnf)
        refine .mk [] ?_
        repeat' (conv => whnf
                 first
                 | (refine CondOb.mk (fun _ => ?_) (fun _ => ?_) <;> first | (exfalso; omega) | skip)
                 | refine ArOb.fits (by first | omega | (simp only [ints_len] at *; omega)) ?_
                 | refine LitOb.vec ?_
                 | refine MakeOb.vec ?_
                 | refine AllocOb.box ?_
                 | refine AggOb.mk (by decide +kernel) ?_
                 | refine ArU.fits (by first | omega | (simp only [ints_len] at *; omega)) ?_
                 | refine ArB.fits (by first | omega | (simp only [ints_len] at *; omega)) ?_
                 | refine CutOb.split ?_
                 | refine And.intro (And.intro (by (simp only [List.length_append, List.length_take, List.length_drop, List.length_cons, List.length_nil, ints_len, List.length_replicate, Go.Cv.vals_len]; omega)) (by (simp only [List.length_append, List.length_take, List.length_drop, List.length_cons, List.length_nil, ints_len, List.length_replicate, Go.Cv.vals_len]; omega))) ?_
                 | refine ⟨_, _, rfl, ints_get (by first | omega | (simp only [ints_len] at *; omega)), ?_⟩
                 | refine ⟨_, _, (Int.toNat_of_nonneg (by first | omega | (simp only [ints_len] at *; omega))).symm, ints_get (by first | omega | (simp only [ints_len] at *; omega)), ?_⟩
                 | refine DrawOb.mk [] (.qs [0, 1, 3, 4] (.l 2 [4] (.l 5 [] (.qs [6, 7] .nil) .no) .no)) (by decide +kernel) ?_
                 | refine DrawOb.mk [] (.qs [0, 1, 2, 3, 4, 5, 6, 7, 8, 9] .nil) (by decide +kernel) ?_
                 | (refine CallOb.mk [] (raw_ok a b t va vb (by omega)) rfl (ImpL.refl _) rfl rfl ?_; rintro _ _ ⟨rfl, rfl⟩)
                 | fail)
        all_goals try (conv => whnf)
        rw [← hst]
        refine ⟨t, rfl, by rw [ints_len]; omega, ?_⟩
        repeat' (conv => whnf
                 first
                 | refine CondOb.mk (fun _ => ?_) (fun _ => ?_)
                 | refine ArOb.fits (by first | omega | (simp only [ints_len] at *; omega)) ?_
                 | refine LitOb.vec ?_
                 | refine MakeOb.vec ?_
                 | refine AllocOb.box ?_
                 | refine AggOb.mk (by decide +kernel) ?_
                 | refine ArU.fits (by first | omega | (simp only [ints_len] at *; omega)) ?_
                 | refine ArB.fits (by first | omega | (simp only [ints_len] at *; omega)) ?_
                 | refine CutOb.split ?_
                 | refine And.intro (And.intro (by (simp only [List.length_append, List.length_take, List.length_drop, List.length_cons, List.length_nil, ints_len, List.length_replicate, Go.Cv.vals_len]; omega)) (by (simp only [List.length_append, List.length_take, List.length_drop, List.length_cons, List.length_nil, ints_len, List.length_replicate, Go.Cv.vals_len]; omega))) ?_
                 | refine ⟨_, _, rfl, ints_get (by first | omega | (simp only [ints_len] at *; omega)), ?_⟩
                 | refine ⟨_, _, (Int.toNat_of_nonneg (by first | omega | (simp only [ints_len] at *; omega))).symm, ints_get (by first | omega | (simp only [ints_len] at *; omega)), ?_⟩
                 | fail)
        all_goals try (conv => whnf)
        refine ⟨_, ints_get (by omega), ?_⟩
        repeat' (conv => whnf
                 first
                 | refine ArOb.fits (by first | omega | (simp only [ints_len] at *; omega)) ?_
                 | refine LitOb.vec ?_
                 | refine MakeOb.vec ?_
                 | refine AllocOb.box ?_
                 | refine AggOb.mk (by decide +kernel) ?_
                 | refine ArU.fits (by first | omega | (simp only [ints_len] at *; omega)) ?_
                 | refine ArB.fits (by first | omega | (simp only [ints_len] at *; omega)) ?_
                 | refine CutOb.split ?_
                 | refine And.intro (And.intro (by (simp only [List.length_append, List.length_take, List.length_drop, List.length_cons, List.length_nil, ints_len, List.length_replicate, Go.Cv.vals_len]; omega)) (by (simp only [List.length_append, List.length_take, List.length_drop, List.length_cons, List.length_nil, ints_len, List.length_replicate, Go.Cv.vals_len]; omega))) ?_
                 | refine ⟨_, _, rfl, ints_get (by first | omega | (simp only [ints_len] at *; omega)), ?_⟩
                 | refine ⟨_, _, (Int.toNat_of_nonneg (by first | omega | (simp only [ints_len] at *; omega))).symm, ints_get (by first | omega | (simp only [ints_len] at *; omega)), ?_⟩
                 | fail)
        all_goals try (conv => whnf)
        rw [rdn_set (fun t => max 0 (wmn (dif a b) (L - t) t)) (show t < L + 1 by omega)]
        repeat' (conv => whnf
                 first
                 | (refine CondOb.mk (fun _ => ?_) (fun _ => ?_) <;> first | (exfalso; omega) | skip)
                 | refine ArOb.fits (by first | omega | (simp only [ints_len] at *; omega)) ?_
                 | refine LitOb.vec ?_
                 | refine MakeOb.vec ?_
                 | refine AllocOb.box ?_
                 | refine AggOb.mk (by decide +kernel) ?_
                 | refine ArU.fits (by first | omega | (simp only [ints_len] at *; omega)) ?_
                 | refine ArB.fits (by first | omega | (simp only [ints_len] at *; omega)) ?_
                 | refine CutOb.split ?_
                 | refine And.intro (And.intro (by (simp only [List.length_append, List.length_take, List.length_drop, List.length_cons, List.length_nil, ints_len, List.length_replicate, Go.Cv.vals_len]; omega)) (by (simp only [List.length_append, List.length_take, List.length_drop, List.length_cons, List.length_nil, ints_len, List.length_replicate, Go.Cv.vals_len]; omega))) ?_
                 | refine ⟨_, _, rfl, ints_get (by first | omega | (simp only [ints_len] at *; omega)), ?_⟩
                 | refine ⟨_, _, (Int.toNat_of_nonneg (by first | omega | (simp only [ints_len] at *; omega))).symm, ints_get (by first | omega | (simp only [ints_len] at *; omega)), ?_⟩
                 | refine DrawOb.mk [] (.qs [0, 1, 3, 4] (.l 2 [4] (.l 5 [] (.qs [6, 7] .nil) .no) .no)) (by decide +kernel) ?_
                 | refine DrawOb.mk [] (.qs [0, 1, 2, 3, 4, 5, 6, 7, 8, 9] .nil) (by decide +kernel) ?_
                 | fail)
        all_goals try (conv => whnf)
        · refine .mk [] ?_
          have hts : t = s := by omega
          subst hts
          have hin : 0 < inc := by assumption
          have hlt : wmn (dif a b) (L - t) t < 0 := by assumption
          rcases hy with ⟨h, _⟩ | ⟨h, fa, h3⟩
          · cases h; omega
          · have hts : t = 400 := by cases h; rfl
            obtain ⟨u, g1, g2, g3⟩ := wmn_at (dif a b) (L - t) t
            exact ⟨([], 0, 0, 3), .inr ⟨a, b, hP, hc, .inr ⟨⟨fb, hdr⟩, mkP_lim (above_err va vb fa fb h3 ⟨u, by omega, by omega⟩)⟩⟩, rfl, Imp.tup ⟨imp_zero, Imp.refl _, trivial⟩⟩
        all_goals
          have h3 : s ≤ t → 0 < inc → t = s → 0 ≤ wmn (dif a b) (L - s) s := fun _ _ e => (by subst e; first | omega | (exfalso; omega))
          have h4 : t ≤ s → 0 < inc → 0 ≤ wmn (dif a b) (L - s) s := fun h5 h6 => (by
            by_cases e : t = s
            · exact h3 (by omega) h6 e
            · exact h2 (by omega) h6)
          first
            | (have ht0 : t = 0 := by omega
               subst ht0
               rw [rdn_full]
               refine .mk [.fz 2, .fb 3] ?_
               have hper : (∀ u, u < s + n → amn a b u ≠ INF) → Per (amn a b) s n inc := by
                 intro _
                 rcases hy with ⟨h, h7⟩ | ⟨h, fa, h7⟩
                 · have e1 : s = frm a b := by cases h; rfl
                   have e2 : n = 1 := by cases h; rfl
                   have e3 : inc = 0 := by cases h; rfl
                   rw [e1, e2, e3]; exact amn_still va vb fb h7
                 · have e2 : n = com a b := by cases h; rfl
                   have e3 : inc = drf a b := by cases h; rfl
                   have h8 := h4 (by omega) (by omega)
                   rw [e2, e3]
                   refine amn_per va vb fa fb (by omega) (fun u hu => ?_)
                   obtain ⟨r, g1, g2, g3⟩ := down va vb fb hdr hu
                   have := wmn_le (d := dif a b) (n := L - s) g1 (by omega)
                   omega
               have hinc : inc ≤ 1099511627776 := by
                 rcases hy with ⟨h, h7⟩ | ⟨h, fa, h7⟩
                 · cases h; omega
                 · have e3 : inc = drf a b := by cases h; rfl
                   rw [e3]; exact drf_le va vb hc
               have hFb : ∀ u, u ≤ s + n → 0 ≤ amn a b u ∧ amn a b u ≤ 4611686018427387904 := fun u hu => amn_bd va vb (by omega)
               refine CallOb.mk [] (Build_ok 45 (.pptr [.psl 1 (ints (vals (fun t => max 0 (wmn (dif a b) (L - t) t)) (L + 1)))]) (amn a b) s n inc (by omega) (by omega) (by omega) hinc hFb
                 (fun u hu => by rw [← hV u hu]; exact AboveC_ok (fun t => max 0 (wmn (dif a b) (L - t) t)) (L + 1) u (by omega) (by omega)) hper) rfl ?_ rfl rfl ?_
               · exact ⟨Imp.fn ⟨Imp.shut rfl, trivial⟩, Imp.refl _, Imp.refl _, Imp.refl _, trivial⟩
               rintro _ _ ⟨x, hx, rfl, rfl⟩
               repeat' (conv => whnf
                        first
                        | refine CondOb.mk (fun _ => ?_) (fun _ => ?_)
                        | refine ArOb.fits (by first | omega | (simp only [ints_len] at *; omega)) ?_
                        | refine LitOb.vec ?_
                        | refine MakeOb.vec ?_
                        | refine AllocOb.box ?_
                        | refine AggOb.mk (by decide +kernel) ?_
                        | refine ArU.fits (by first | omega | (simp only [ints_len] at *; omega)) ?_
                        | refine ArB.fits (by first | omega | (simp only [ints_len] at *; omega)) ?_
                        | refine CutOb.split ?_
                        | refine Gh.mk [] ?_
                        | refine And.intro (And.intro (by (simp only [List.length_append, List.length_take, List.length_drop, List.length_cons, List.length_nil, ints_len, List.length_replicate, Go.Cv.vals_len]; omega)) (by (simp only [List.length_append, List.length_take, List.length_drop, List.length_cons, List.length_nil, ints_len, List.length_replicate, Go.Cv.vals_len]; omega))) ?_
                        | refine ⟨_, _, rfl, ints_get (by first | omega | (simp only [ints_len] at *; omega)), ?_⟩
                        | refine ⟨_, _, (Int.toNat_of_nonneg (by first | omega | (simp only [ints_len] at *; omega))).symm, ints_get (by first | omega | (simp only [ints_len] at *; omega)), ?_⟩
                        | fail)
               all_goals try (conv => whnf)
               exact ⟨x, .inr ⟨a, b, hP, hc, .inr ⟨⟨fb, hdr⟩, buildP_mk (amn_bd va vb (by omega)).1 (amn_mono va vb fb hdr) (fun u hu => (hFb u (by omega)).2) (fun m hm h => amn_inf va vb fb (by omega) h) hx⟩⟩, rfl, Imp.refl _⟩)
            | (have ht0 : 0 < t := by omega
               refine .mk [] ?_
               refine ⟨t - 1, [0, 1, 2, 3], ⟨by omega, fun h5 h6 => h4 (by omega) h6⟩, by omega, ?_⟩
               have e1 : lst (dif a b) L (t - 1) = wmn (dif a b) (L - t) t := by
                 unfold lst; rw [if_neg (by omega), show t - 1 + 1 = t by omega]
               have e2 : t - 1 + 1 = t := by omega
               rw [e1, e2]
               refine Le.mk (by kernel_rfl) ?_ ?_ <;> repeat' (first | exact True.intro | refine And.intro ?_ ?_ | exact Imp.refl _ | exact Imp.num (by omega) | exact rfl))
end Go.Proofs.Ytppdpfaipkjpmaa
