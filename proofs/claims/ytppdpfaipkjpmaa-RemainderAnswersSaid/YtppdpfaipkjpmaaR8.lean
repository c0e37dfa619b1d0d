/-
  A text of the proofs of this seat: lemmas that the statements' proofs use; it states nothing of the program by itself beyond the contracts that its theorems bear. Conditions: those that stand in each theorem. Its short name: R8.
-/
import Derived.Test.YtppdpfaipkjpmaaR7
set_option linter.unusedVariables false
set_option linter.unusedSimpArgs false
namespace Go.Proofs.Ytppdpfaipkjpmaa
open Go.Sx Go.Cv
set_option maxRecDepth 4000
set_option maxHeartbeats 2000000
theorem flatP_mk {v : Int} {x : List Int × Int × Int × Int} (h : FlatP v x) : FlatQ v x := by
  rcases h with ⟨h1, rfl⟩ | ⟨h1, h2⟩
  · exact .inl ⟨h1, rfl⟩
  · by_cases h3 : v ≤ 1073741824
    · rw [show min v 1073741825 = v by omega] at h2
      refine .inr (.inl ⟨h1, h3, madeP_mk (by omega) (by simp) (fun t ht => ?_) (fun m hm h => ?_) (fun _ => flatF_per v) h2⟩)
      · match t, ht with
        | 0, _ => rfl
        | 1, _ => rfl
      · exfalso
        unfold flatF at h; split at h <;> (simp only [INF] at h; omega)
    · rw [show min v 1073741825 = 1073741825 by omega] at h2
      refine .inr (.inr ⟨by omega, ?_⟩)
      have hm := madeP_mk (F := flatF 1073741825) (by omega) (by simp) (fun t ht => by
        match t, ht with
        | 0, _ => rfl
        | 1, _ => rfl) (fun m hm h => by exfalso; unfold flatF at h; split at h <;> (simp only [INF] at h; omega)) (fun _ => flatF_per _) h2
      rcases hm with ⟨vs, p, q, hnf, hvf, _⟩ | ⟨_, h⟩
      · exfalso
        have e := hvf.sound hnf 1
        obtain ⟨s, p1, hper, _, _, rfl⟩ := hnf
        by_cases hlt : 1 < s + p
        · rw [val_lt (by rw [vals_len]; exact hlt)] at e
          have h4 := hvf.v 1 (by rw [vals_len]; exact hlt)
          rw [e] at h4
          simp [flatF, INF] at h4
        · have hs : s = 0 := by omega
          have hp : p = 1 := by omega
          subst hs hp
          have h5 := hper 0 (by omega)
          have h6 := hper 1 (by omega)
          simp [flatF] at h5 h6
          omega
      · exact h
theorem RFlat_ok (v : Int) : Ctr Try.prog 22 [i64 v] [] (fun r o => ∃ x : List Int × Int × Int × Int, FlatQ v x ∧ o = [] ∧ r = crvE x) :=
  (Flat_ok v).mono (fun r o ⟨x, h1, h2, h3⟩ => ⟨x, flatP_mk h1, h2, h3⟩)
theorem flatQ_zero {x} (hx : FlatQ 0 x) : MkP (fun _ => 0) x := by
  rw [← flatF_zero]
  rcases hx with ⟨h, _⟩ | ⟨_, _, h⟩ | ⟨h, _⟩
  · omega
  · exact h
  · omega
def lsr (d : Nat → Int) (L y : Nat) : Int := if y = L + 1 then INF else max 0 (wmn d (L - y) y)
theorem lsr_step {d : Nat → Int} {L t : Nat} (ht : t ≤ L) (hd : d L ≤ INF) : min (lsr d L (t + 1)) (max 0 (d t)) = max 0 (wmn d (L - t) t) := by
  unfold lsr
  split
  · rename_i h
    have : t = L := by omega
    subst this; rw [Nat.sub_self]; simp only [wmn, INF] at *; omega
  · rw [show L - t = L - (t + 1) + 1 by omega]; simp only [wmn]; omega
theorem RAbove_ok (vs : List Int) (p q : Int) (ws : List Int) (p' q' : Int) :
    Ctr Try.prog 20 [crv vs p q, crv ws p' q'] [] (fun r o => ∃ x : List Int × Int × Int × Int, AboveP vs p q ws p' q' x ∧ o = [] ∧ r = crvE x) := by
  refine Ctr.impE ?_
  refine fn_intro (E := env 0) tys_ok rfl rfl rfl Try.func20 (by kernel_rfl) rfl (by kernel_rfl) ?_
  repeat' (conv => whnf
           first
           | refine CondOb.mk (fun _ => ?_) (fun _ => ?_)
           | refine ArOb.fits (by first | omega | (simp only [ints_len] at *; omega)) ?_
           | refine LitOb.vec ?_
           | refine MakeOb.vec ?_
           | refine AllocOb.box ?_
           | refine AggOb.mk (by decide +kernel) ?_
           | refine ArU.fits (by first | omega | (simp only [ints_len] at *; omega)) ?_
           | refine ArB.fits (by first | omega | (simp only [ints_len] at *; omega)) ?_
           | refine CutOb.split ?_
           | refine Gh.mk [] ?_
           | refine And.intro (And.intro (by (simp only [List.length_append, List.length_take, List.length_drop, List.length_cons, List.length_nil, ints_len, List.length_replicate, Go.Cv.vals_len]; omega)) (by (simp only [List.length_append, List.length_take, List.length_drop, List.length_cons, List.length_nil, ints_len, List.length_replicate, Go.Cv.vals_len]; omega))) ?_
           | refine ⟨_, _, rfl, ints_get (by first | omega | (simp only [ints_len] at *; omega)), ?_⟩
           | refine ⟨_, _, (Int.toNat_of_nonneg (by first | omega | (simp only [ints_len] at *; omega))).symm, ints_get (by first | omega | (simp only [ints_len] at *; omega)), ?_⟩
           | fail)
  all_goals try (conv => whnf)
  refine CallOb.mk [] (Pair_ok vs p q ws p' q') rfl (ImpL.refl _) rfl rfl ?_
  rintro _ _ ⟨⟨A, B, l, e⟩, hPP, rfl, rfl⟩
  dsimp only at hPP ⊢
  rcases pair_prep hPP with ⟨he, he0⟩ | ⟨he, a, b, hP, hc, hA, hB, hl⟩
  · repeat' (conv => whnf
             first
             | (refine CondOb.mk (fun _ => ?_) (fun _ => ?_) <;> first | (exfalso; omega) | skip)
             | refine ArOb.fits (by first | omega | (simp only [ints_len] at *; omega)) ?_
             | refine LitOb.vec ?_
             | refine MakeOb.vec ?_
             | refine AllocOb.box ?_
             | refine AggOb.mk (by decide +kernel) ?_
             | refine ArU.fits (by first | omega | (simp only [ints_len] at *; omega)) ?_
             | refine ArB.fits (by first | omega | (simp only [ints_len] at *; omega)) ?_
             | refine CutOb.split ?_
             | refine Gh.mk [] ?_
             | refine And.intro (And.intro (by (simp only [List.length_append, List.length_take, List.length_drop, List.length_cons, List.length_nil, ints_len, List.length_replicate, Go.Cv.vals_len]; omega)) (by (simp only [List.length_append, List.length_take, List.length_drop, List.length_cons, List.length_nil, ints_len, List.length_replicate, Go.Cv.vals_len]; omega))) ?_
             | refine ⟨_, _, rfl, ints_get (by first | omega | (simp only [ints_len] at *; omega)), ?_⟩
             | refine ⟨_, _, (Int.toNat_of_nonneg (by first | omega | (simp only [ints_len] at *; omega))).symm, ints_get (by first | omega | (simp only [ints_len] at *; omega)), ?_⟩
             | fail)
    all_goals try (conv => whnf)
    exact ⟨([], 0, 0, e), .inl ⟨e, he, rfl⟩, rfl, Imp.tup ⟨imp_zero, Imp.refl _, trivial⟩⟩
  · subst he hA hB hl
    have va := hP.va
    have vb := hP.vb
    have f1 := frm_le va vb
    have c1 := com_pos va vb
    have a1 := va.n1
    have a2 := va.n2
    have b1 := vb.n1
    have b2 := vb.n2
    have hq := drf_le va vb hc
    have hq2 := drf_ge va vb hc
    repeat' (conv => whnf
             first
             | (refine CondOb.mk (fun _ => ?_) (fun _ => ?_) <;> first | (exfalso; omega) | skip)
             | refine ArOb.fits (by first | omega | (simp only [ints_len] at *; omega)) ?_
             | refine LitOb.vec ?_
             | refine MakeOb.vec ?_
             | refine AllocOb.box ?_
             | refine AggOb.mk (by decide +kernel) ?_
             | refine ArU.fits (by first | omega | (simp only [ints_len] at *; omega)) ?_
             | refine ArB.fits (by first | omega | (simp only [ints_len] at *; omega)) ?_
             | refine Gh.mk [] ?_
             | refine And.intro (And.intro (by (simp only [List.length_append, List.length_take, List.length_drop, List.length_cons, List.length_nil, ints_len, List.length_replicate, Go.Cv.vals_len]; omega)) (by (simp only [List.length_append, List.length_take, List.length_drop, List.length_cons, List.length_nil, ints_len, List.length_replicate, Go.Cv.vals_len]; omega))) ?_
             | refine ⟨_, _, rfl, ints_get (by first | omega | (simp only [ints_len] at *; omega)), ?_⟩
             | refine ⟨_, _, (Int.toNat_of_nonneg (by first | omega | (simp only [ints_len] at *; omega))).symm, ints_get (by first | omega | (simp only [ints_len] at *; omega)), ?_⟩
             | fail)
    all_goals try (conv => whnf)
    refine CutOb.cut (Y := Unit) (st := fun _ => ⟨[(11, .bp (FinC a ∧ FinC b)), (10, i64 (400 + 2 * (com a b : Int))), (8, i64 (com a b)), (7, .ptr 2 0), (6, .ptr 1 0), (4, .ptr 0 0)], [.box [.nil, i64 0, i64 0], .box [.psl 1 (ints a.1), i64 a.2.1, i64 a.2.2], .box [.psl 1 (ints b.1), i64 b.2.1, i64 b.2.2]]⟩) (inv := fun _ => True) ?_ ?_
    · repeat' (conv => whnf
               first
               | (refine CondOb.mk (fun _ => ?_) (fun _ => ?_) <;> first | (exfalso; omega) | skip)
               | refine ArOb.fits (by first | omega | (simp only [ints_len] at *; omega)) ?_
               | refine LitOb.vec ?_
               | refine MakeOb.vec ?_
               | refine AllocOb.box ?_
               | refine AggOb.mk (by decide +kernel) ?_
               | refine ArU.fits (by first | omega | (simp only [ints_len] at *; omega)) ?_
               | refine ArB.fits (by first | omega | (simp only [ints_len] at *; omega)) ?_
               | refine CutOb.split ?_
               | refine Gh.mk [] ?_
               | refine And.intro (And.intro (by (simp only [List.length_append, List.length_take, List.length_drop, List.length_cons, List.length_nil, ints_len, List.length_replicate, Go.Cv.vals_len]; omega)) (by (simp only [List.length_append, List.length_take, List.length_drop, List.length_cons, List.length_nil, ints_len, List.length_replicate, Go.Cv.vals_len]; omega))) ?_
               | refine ⟨_, _, rfl, ints_get (by first | omega | (simp only [ints_len] at *; omega)), ?_⟩
               | refine ⟨_, _, (Int.toNat_of_nonneg (by first | omega | (simp only [ints_len] at *; omega))).symm, ints_get (by first | omega | (simp only [ints_len] at *; omega)), ?_⟩
               | (refine CallOb.mk [] (RFin_ok a va) rfl (ImpL.refl _) rfl rfl ?_; rintro _ _ ⟨rfl, rfl⟩)
               | (refine CallOb.mk [] (RFin_ok b vb) rfl (ImpL.refl _) rfl rfl ?_; rintro _ _ ⟨rfl, rfl⟩)
               | fail)
      all_goals try (conv => whnf)
      · have fa : FinC a := by assumption
        refine ⟨(), [2, 3, 4], trivial, ?_⟩
        refine Le.mk (by kernel_rfl) ?_ ?_ <;> repeat' (first | exact True.intro | refine And.intro ?_ ?_ | exact Imp.refl _ | exact Imp.bp ⟨fun h => ⟨fa, h⟩, fun h => h.2⟩ | exact rfl)
      · have fa : ¬FinC a := by assumption
        refine ⟨(), [2, 3, 4], trivial, ?_⟩
        refine Le.mk (by kernel_rfl) ?_ ?_ <;> repeat' (first | exact True.intro | refine And.intro ?_ ?_ | exact Imp.refl _ | exact Imp.bl ⟨fun h => (by cases h), fun h => absurd h.1 fa⟩ | exact rfl)
    rintro _ _
    repeat' (conv => whnf
             first
             | (refine CondOb.mk (fun _ => ?_) (fun _ => ?_) <;> first | (exfalso; omega) | skip)
             | refine ArOb.fits (by first | omega | (simp only [ints_len] at *; omega)) ?_
             | refine LitOb.vec ?_
             | refine MakeOb.vec ?_
             | refine AllocOb.box ?_
             | refine AggOb.mk (by decide +kernel) ?_
             | refine ArU.fits (by first | omega | (simp only [ints_len] at *; omega)) ?_
             | refine ArB.fits (by first | omega | (simp only [ints_len] at *; omega)) ?_
             | refine Gh.mk [] ?_
             | refine And.intro (And.intro (by (simp only [List.length_append, List.length_take, List.length_drop, List.length_cons, List.length_nil, ints_len, List.length_replicate, Go.Cv.vals_len]; omega)) (by (simp only [List.length_append, List.length_take, List.length_drop, List.length_cons, List.length_nil, ints_len, List.length_replicate, Go.Cv.vals_len]; omega))) ?_
             | refine ⟨_, _, rfl, ints_get (by first | omega | (simp only [ints_len] at *; omega)), ?_⟩
             | refine ⟨_, _, (Int.toNat_of_nonneg (by first | omega | (simp only [ints_len] at *; omega))).symm, ints_get (by first | omega | (simp only [ints_len] at *; omega)), ?_⟩
             | (refine CallOb.mk [] (slopes_ok a b va vb hc) rfl (ImpL.refl _) rfl rfl ?_; rintro _ _ ⟨rfl, rfl⟩)
             | fail)
    all_goals try (conv => whnf)
    refine CutOb.cut (Y := Unit) (st := fun _ => ⟨[(12, i64 (drf a b)), (11, .bp (FinC a ∧ FinC b)), (10, i64 (400 + 2 * (com a b : Int))), (8, i64 (com a b)), (7, .ptr 2 0), (6, .ptr 1 0), (4, .ptr 0 0)], [.box [.nil, i64 0, i64 0], .box [.psl 1 (ints a.1), i64 a.2.1, i64 a.2.2], .box [.psl 1 (ints b.1), i64 b.2.1, i64 b.2.2]]⟩) (inv := fun _ => ¬(FinC a ∧ FinC b ∧ drf a b < 0)) ?_ ?_
    · repeat' (conv => whnf
               first
               | (refine CondOb.mk (fun _ => ?_) (fun _ => ?_) <;> first | (exfalso; omega) | skip)
               | refine ArOb.fits (by first | omega | (simp only [ints_len] at *; omega)) ?_
               | refine LitOb.vec ?_
               | refine MakeOb.vec ?_
               | refine AllocOb.box ?_
               | refine AggOb.mk (by decide +kernel) ?_
               | refine ArU.fits (by first | omega | (simp only [ints_len] at *; omega)) ?_
               | refine ArB.fits (by first | omega | (simp only [ints_len] at *; omega)) ?_
               | refine CutOb.split ?_
               | refine Gh.mk [] ?_
               | refine And.intro (And.intro (by (simp only [List.length_append, List.length_take, List.length_drop, List.length_cons, List.length_nil, ints_len, List.length_replicate, Go.Cv.vals_len]; omega)) (by (simp only [List.length_append, List.length_take, List.length_drop, List.length_cons, List.length_nil, ints_len, List.length_replicate, Go.Cv.vals_len]; omega))) ?_
               | refine ⟨_, _, rfl, ints_get (by first | omega | (simp only [ints_len] at *; omega)), ?_⟩
               | refine ⟨_, _, (Int.toNat_of_nonneg (by first | omega | (simp only [ints_len] at *; omega))).symm, ints_get (by first | omega | (simp only [ints_len] at *; omega)), ?_⟩
               | fail)
      all_goals try (conv => whnf)
      · have hb : FinC a ∧ FinC b := by assumption
        have hd : drf a b < 0 := by assumption
        refine CallOb.mk [] (RFlat_ok 0) rfl (ImpL.refl _) rfl rfl ?_
        rintro _ _ ⟨x, hx, rfl, rfl⟩
        repeat' (conv => whnf
                 first
                 | refine CondOb.mk (fun _ => ?_) (fun _ => ?_)
                 | refine ArOb.fits (by first | omega | (simp only [ints_len] at *; omega)) ?_
                 | refine LitOb.vec ?_
                 | refine MakeOb.vec ?_
                 | refine AllocOb.box ?_
                 | refine AggOb.mk (by decide +kernel) ?_
                 | refine ArU.fits (by first | omega | (simp only [ints_len] at *; omega)) ?_
                 | refine ArB.fits (by first | omega | (simp only [ints_len] at *; omega)) ?_
                 | refine CutOb.split ?_
                 | refine Gh.mk [] ?_
                 | refine And.intro (And.intro (by (simp only [List.length_append, List.length_take, List.length_drop, List.length_cons, List.length_nil, ints_len, List.length_replicate, Go.Cv.vals_len]; omega)) (by (simp only [List.length_append, List.length_take, List.length_drop, List.length_cons, List.length_nil, ints_len, List.length_replicate, Go.Cv.vals_len]; omega))) ?_
                 | refine ⟨_, _, rfl, ints_get (by first | omega | (simp only [ints_len] at *; omega)), ?_⟩
                 | refine ⟨_, _, (Int.toNat_of_nonneg (by first | omega | (simp only [ints_len] at *; omega))).symm, ints_get (by first | omega | (simp only [ints_len] at *; omega)), ?_⟩
                 | fail)
        all_goals try (conv => whnf)
        exact ⟨x, .inr ⟨a, b, hP, hc, .inl ⟨fun h => (by have := h.2 hb.1; omega), flatQ_zero hx⟩⟩, rfl, Imp.refl _⟩
      · have hd : ¬drf a b < 0 := by assumption
        exact ⟨(), [0, 1, 2], fun h => hd h.2.2, (by refine Le.mk (by kernel_rfl) ?_ ?_ <;> repeat' (first | exact True.intro | refine And.intro ?_ ?_ | exact Imp.refl _ | exact rfl))⟩
      · have hb : ¬(FinC a ∧ FinC b) := by assumption
        exact ⟨(), [0, 1, 2], fun h => hb ⟨h.1, h.2.1⟩, (by refine Le.mk (by kernel_rfl) ?_ ?_ <;> repeat' (first | exact True.intro | refine And.intro ?_ ?_ | exact Imp.refl _ | exact rfl))⟩
    rintro _ hno
    have hdl : ∀ t, t ≤ 1048576 → dif a b t ≤ 4611686018427387904 := fun t ht => dif_le va vb ht
    repeat' (conv => whnf
             first
             | (refine CondOb.mk (fun _ => ?_) (fun _ => ?_) <;> first | (exfalso; omega) | skip)
             | refine ArOb.fits (by first | omega | (simp only [ints_len] at *; omega)) ?_
             | refine LitOb.vec ?_
             | refine MakeOb.vec ?_
             | refine AllocOb.box ?_
             | refine AggOb.mk (by decide +kernel) ?_
             | refine ArU.fits (by first | omega | (simp only [ints_len] at *; omega)) ?_
             | refine ArB.fits (by first | omega | (simp only [ints_len] at *; omega)) ?_
             | refine Gh.mk [] ?_
             | refine And.intro (And.intro (by (simp only [List.length_append, List.length_take, List.length_drop, List.length_cons, List.length_nil, ints_len, List.length_replicate, Go.Cv.vals_len]; omega)) (by (simp only [List.length_append, List.length_take, List.length_drop, List.length_cons, List.length_nil, ints_len, List.length_replicate, Go.Cv.vals_len]; omega))) ?_
             | refine ⟨_, _, rfl, ints_get (by first | omega | (simp only [ints_len] at *; omega)), ?_⟩
             | refine ⟨_, _, (Int.toNat_of_nonneg (by first | omega | (simp only [ints_len] at *; omega))).symm, ints_get (by first | omega | (simp only [ints_len] at *; omega)), ?_⟩
             | fail)
    all_goals try (conv => whnf)
    refine ⟨400 + com a b, 400 + com a b, by push_cast; rfl, by push_cast; rfl, Nat.le_refl _, ⟨by simp only; omega, by omega⟩, ?_⟩
    repeat' (conv => whnf
             first
             | (refine CondOb.mk (fun _ => ?_) (fun _ => ?_) <;> first | (exfalso; omega) | skip)
             | refine ArOb.fits (by first | omega | (simp only [ints_len] at *; omega)) ?_
             | refine LitOb.vec ?_
             | refine MakeOb.vec ?_
             | refine AllocOb.box ?_
             | refine AggOb.mk (by decide +kernel) ?_
             | refine ArU.fits (by first | omega | (simp only [ints_len] at *; omega)) ?_
             | refine ArB.fits (by first | omega | (simp only [ints_len] at *; omega)) ?_
             | refine Gh.mk [] ?_
             | refine And.intro (And.intro (by (simp only [List.length_append, List.length_take, List.length_drop, List.length_cons, List.length_nil, ints_len, List.length_replicate, Go.Cv.vals_len]; omega)) (by (simp only [List.length_append, List.length_take, List.length_drop, List.length_cons, List.length_nil, ints_len, List.length_replicate, Go.Cv.vals_len]; omega))) ?_
             | refine ⟨_, _, rfl, ints_get (by first | omega | (simp only [ints_len] at *; omega)), ?_⟩
             | refine ⟨_, _, (Int.toNat_of_nonneg (by first | omega | (simp only [ints_len] at *; omega))).symm, ints_get (by first | omega | (simp only [ints_len] at *; omega)), ?_⟩
             | fail)
    all_goals try (conv => whnf)
    generalize hL : 399 + 2 * com a b = L at *
    have hLi : (L : Int) = 399 + 2 * com a b := by omega
    refine LoopOb.mk (Y := Nat) (st := fun y => ⟨[(15, i64 ((y : Int) - 1)), (14, i64 (lsr (dif a b) L y)), (12, i64 (drf a b)), (13, .ptr 3 0), (11, .bp (FinC a ∧ FinC b)), (8, i64 (com a b)), (7, .ptr 2 0), (6, .ptr 1 0), (4, .ptr 0 0)], [.box [.nil, i64 0, i64 0], .box [.psl 1 (ints a.1), i64 a.2.1, i64 a.2.2], .box [.psl 1 (ints b.1), i64 b.2.1, i64 b.2.2], .box [.vec 4, i64 (com a b), i64 0], .vec 1 (ints (rdn (fun t => max 0 (wmn (dif a b) (L - t) t)) (min y (400 + com a b)) (400 + com a b)))]⟩)
      (inv := fun y => y ≤ L + 1) (fun y => y) (L + 1) [0, 1, 2, 4, 3] (by omega) ?_ ?_
    · have e1 : min (L + 1) (400 + com a b) = 400 + com a b := by omega
      rw [e1, rdn_zero]
      refine Le.mk (by kernel_rfl) ?_ ?_ <;> repeat' (first | exact True.intro | refine And.intro ?_ ?_ | exact Imp.refl _ | exact Imp.num (by omega) | exact Imp.num (by simp [lsr]) | exact rfl)
    · intro y hy
      rcases Nat.eq_zero_or_pos y with h0 | h0
      · subst h0
        simp only [Nat.zero_min, rdn_full]
        repeat' (conv => whnf
                 first
                 | (refine CondOb.mk (fun _ => ?_) (fun _ => ?_) <;> first | (exfalso; omega) | skip)
                 | refine ArOb.fits (by first | omega | (simp only [ints_len] at *; omega)) ?_
                 | refine LitOb.vec ?_
                 | refine MakeOb.vec ?_
                 | refine AllocOb.box ?_
                 | refine AggOb.mk (by decide +kernel) ?_
                 | refine ArU.fits (by first | omega | (simp only [ints_len] at *; omega)) ?_
                 | refine ArB.fits (by first | omega | (simp only [ints_len] at *; omega)) ?_
                 | refine Gh.mk [] ?_
                 | refine And.intro (And.intro (by (simp only [List.length_append, List.length_take, List.length_drop, List.length_cons, List.length_nil, ints_len, List.length_replicate, Go.Cv.vals_len]; omega)) (by (simp only [List.length_append, List.length_take, List.length_drop, List.length_cons, List.length_nil, ints_len, List.length_replicate, Go.Cv.vals_len]; omega))) ?_
                 | refine ⟨_, _, rfl, ints_get (by first | omega | (simp only [ints_len] at *; omega)), ?_⟩
                 | refine ⟨_, _, (Int.toNat_of_nonneg (by first | omega | (simp only [ints_len] at *; omega))).symm, ints_get (by first | omega | (simp only [ints_len] at *; omega)), ?_⟩
                 | fail)
        all_goals try (conv => whnf)
        refine CutOb.cut (Y := Int) (st := fun J => ⟨[(13, .ptr 0 0), (4, .ptr 1 0)], [.box [.psl 1 (ints (vals (fun t => max 0 (wmn (dif a b) (L - t) t)) (400 + com a b))), i64 (com a b), i64 J], .box [.nil, i64 0, i64 0]]⟩)
          (inv := fun J => (J = drf a b ∧ FinC a ∧ FinC b ∧ 0 < drf a b ∧ ∀ t, 400 ≤ t → t < 400 + com a b → 0 ≤ dif a b t) ∨ (J = 0 ∧ ¬(FinC a ∧ FinC b ∧ 0 < drf a b))) ?_ ?_
        · repeat' (conv => whnf
                   first
                   | (refine CondOb.mk (fun _ => ?_) (fun _ => ?_) <;> first | (exfalso; omega) | skip)
                   | refine ArOb.fits (by first | omega | (simp only [ints_len] at *; omega)) ?_
                   | refine LitOb.vec ?_
                   | refine MakeOb.vec ?_
                   | refine AllocOb.box ?_
                   | refine AggOb.mk (by decide +kernel) ?_
                   | refine ArU.fits (by first | omega | (simp only [ints_len] at *; omega)) ?_
                   | refine ArB.fits (by first | omega | (simp only [ints_len] at *; omega)) ?_
                   | refine CutOb.split ?_
                   | refine And.intro (And.intro (by (simp only [List.length_append, List.length_take, List.length_drop, List.length_cons, List.length_nil, ints_len, List.length_replicate, Go.Cv.vals_len]; omega)) (by (simp only [List.length_append, List.length_take, List.length_drop, List.length_cons, List.length_nil, ints_len, List.length_replicate, Go.Cv.vals_len]; omega))) ?_
                   | refine ⟨_, _, rfl, ints_get (by first | omega | (simp only [ints_len] at *; omega)), ?_⟩
                   | refine ⟨_, _, (Int.toNat_of_nonneg (by first | omega | (simp only [ints_len] at *; omega))).symm, ints_get (by first | omega | (simp only [ints_len] at *; omega)), ?_⟩
                   | fail)
          all_goals try (conv => whnf)
          · refine .mk [.fz 4] ?_
            refine LoopOb.mk (Y := Nat) (st := fun u => ⟨[(16, i64 u), (12, i64 (drf a b)), (13, .ptr 3 0), (8, i64 (com a b)), (7, .ptr 2 0), (6, .ptr 1 0), (4, .ptr 0 0)], [.box [.nil, i64 0, i64 0], .box [.psl 1 (ints a.1), i64 a.2.1, i64 a.2.2], .box [.psl 1 (ints b.1), i64 b.2.1, i64 b.2.2], .box [.psl 1 (ints (vals (fun t => max 0 (wmn (dif a b) (L - t) t)) (400 + com a b))), i64 (com a b), i64 (drf a b)]]⟩)
              (inv := fun u => 400 ≤ u ∧ u ≤ 400 + com a b ∧ ∀ t, 400 ≤ t → t < u → 0 ≤ dif a b t) (fun u => 400 + com a b - u) 400 [0, 1, 2, 3] ⟨by omega, by omega, fun t h1 h2 => by omega⟩ (by (refine Le.mk (by kernel_rfl) ?_ ?_ <;> repeat' (first | exact True.intro | refine And.intro ?_ ?_ | exact Imp.refl _ | exact Imp.any _ | exact Imp.num (by first | omega | simp only [ints_len]) | exact rfl))) ?_
            have hfab : FinC a ∧ FinC b := by assumption
            have hdp : 0 < drf a b := by assumption
            rintro u ⟨h1, h2, h3⟩
            repeat' (conv => whnf
                     first
                     | (refine CondOb.mk (fun _ => ?_) (fun _ => ?_) <;> first | (exfalso; omega) | skip)
                     | refine ArOb.fits (by first | omega | (simp only [ints_len] at *; omega)) ?_
                     | refine LitOb.vec ?_
                     | refine MakeOb.vec ?_
                     | refine AllocOb.box ?_
                     | refine AggOb.mk (by decide +kernel) ?_
                     | refine ArU.fits (by first | omega | (simp only [ints_len] at *; omega)) ?_
                     | refine ArB.fits (by first | omega | (simp only [ints_len] at *; omega)) ?_
                     | refine CutOb.split ?_
                     | refine Gh.mk [] ?_
                     | refine And.intro (And.intro (by (simp only [List.length_append, List.length_take, List.length_drop, List.length_cons, List.length_nil, ints_len, List.length_replicate, Go.Cv.vals_len]; omega)) (by (simp only [List.length_append, List.length_take, List.length_drop, List.length_cons, List.length_nil, ints_len, List.length_replicate, Go.Cv.vals_len]; omega))) ?_
                     | refine ⟨_, _, rfl, ints_get (by first | omega | (simp only [ints_len] at *; omega)), ?_⟩
                     | refine ⟨_, _, (Int.toNat_of_nonneg (by first | omega | (simp only [ints_len] at *; omega))).symm, ints_get (by first | omega | (simp only [ints_len] at *; omega)), ?_⟩
                     | (refine CallOb.mk [] (rraw_ok a b u va vb hfab.1 hfab.2 (by omega)) rfl (ImpL.refl _) rfl rfl ?_; rintro _ _ ⟨rfl, rfl⟩)
                     | fail)
            all_goals try (conv => whnf)
            · have hneg : dif a b u < 0 := by assumption
              exact ⟨([], 0, 0, 3), .inr ⟨a, b, hP, hc, .inr ⟨⟨hfab.2, fun _ => by omega⟩, mkP_lim (above_err va vb hfab.1 hfab.2 hdp ⟨u, h1, hneg⟩)⟩⟩, rfl, Imp.tup ⟨imp_zero, Imp.refl _, trivial⟩⟩
            · refine ⟨u + 1, [0, 1, 2, 3], ⟨by omega, by omega, fun t h4 h5 => ?_⟩, by omega, by (refine Le.mk (by kernel_rfl) ?_ ?_ <;> repeat' (first | exact True.intro | refine And.intro ?_ ?_ | exact Imp.refl _ | exact Imp.any _ | exact Imp.num (by first | omega | simp only [ints_len]) | exact rfl))⟩
              by_cases e : t = u
              · subst e; omega
              · exact h3 t h4 (by omega)
            · exact ⟨drf a b, [3, 0], .inl ⟨rfl, hfab.1, hfab.2, hdp, fun t h4 h5 => h3 t h4 (by omega)⟩, (by refine Le.mk (by kernel_rfl) ?_ ?_ <;> repeat' (first | exact True.intro | refine And.intro ?_ ?_ | exact Imp.refl _ | exact rfl))⟩
          all_goals
            refine .mk [.fz 4] ?_
            refine ⟨0, [3, 0], .inr ⟨rfl, fun h => ?_⟩, (by refine Le.mk (by kernel_rfl) ?_ ?_ <;> repeat' (first | exact True.intro | refine And.intro ?_ ?_ | exact Imp.refl _ | exact rfl))⟩
            first
              | exact absurd (And.intro h.1 h.2.1) (by assumption)
              | exact absurd h.2.2 (by assumption)
        · rintro J hJ
          repeat' (conv => whnf
                   first
                   | (refine CondOb.mk (fun _ => ?_) (fun _ => ?_) <;> first | (exfalso; omega) | skip)
                   | refine ArOb.fits (by first | omega | (simp only [ints_len] at *; omega)) ?_
                   | refine LitOb.vec ?_
                   | refine MakeOb.vec ?_
                   | refine AllocOb.box ?_
                   | refine AggOb.mk (by decide +kernel) ?_
                   | refine ArU.fits (by first | omega | (simp only [ints_len] at *; omega)) ?_
                   | refine ArB.fits (by first | omega | (simp only [ints_len] at *; omega)) ?_
                   | refine Gh.mk [] ?_
                   | refine And.intro (And.intro (by (simp only [List.length_append, List.length_take, List.length_drop, List.length_cons, List.length_nil, ints_len, List.length_replicate, Go.Cv.vals_len]; omega)) (by (simp only [List.length_append, List.length_take, List.length_drop, List.length_cons, List.length_nil, ints_len, List.length_replicate, Go.Cv.vals_len]; omega))) ?_
                   | refine ⟨_, _, rfl, ints_get (by first | omega | (simp only [ints_len] at *; omega)), ?_⟩
                   | refine ⟨_, _, (Int.toNat_of_nonneg (by first | omega | (simp only [ints_len] at *; omega))).symm, ints_get (by first | omega | (simp only [ints_len] at *; omega)), ?_⟩
                   | fail)
          all_goals try (conv => whnf)
          have hJ2 : 0 ≤ J ∧ J ≤ 1099511627776 := by
            rcases hJ with ⟨rfl, h⟩ | ⟨rfl, _⟩ <;> omega
          have hVb : ∀ t, t < 400 + com a b → 0 ≤ max 0 (wmn (dif a b) (L - t) t) ∧ max 0 (wmn (dif a b) (L - t) t) ≤ INF := fun t ht => by
            have := wmn_le (d := dif a b) (n := L - t) (Nat.le_refl t) (by omega)
            have := hdl t (by omega)
            simp only [INF]; omega
          refine CallOb.mk [] (Made_ok (vals (fun t => max 0 (wmn (dif a b) (L - t) t)) (400 + com a b)) (com a b) J (bd_vals hVb c1 (by omega) (by omega) hJ2.1 hJ2.2)) rfl (ImpL.refl _) rfl rfl ?_
          rintro _ _ ⟨⟨x1, x2, x3, x4⟩, hx, rfl, rfl⟩
          repeat' (conv => whnf
                   first
                   | refine CondOb.mk (fun _ => ?_) (fun _ => ?_)
                   | refine ArOb.fits (by first | omega | (simp only [ints_len] at *; omega)) ?_
                   | refine LitOb.vec ?_
                   | refine MakeOb.vec ?_
                   | refine AllocOb.box ?_
                   | refine AggOb.mk (by decide +kernel) ?_
                   | refine ArU.fits (by first | omega | (simp only [ints_len] at *; omega)) ?_
                   | refine ArB.fits (by first | omega | (simp only [ints_len] at *; omega)) ?_
                   | refine CutOb.split ?_
                   | refine Gh.mk [] ?_
                   | refine And.intro (And.intro (by (simp only [List.length_append, List.length_take, List.length_drop, List.length_cons, List.length_nil, ints_len, List.length_replicate, Go.Cv.vals_len]; omega)) (by (simp only [List.length_append, List.length_take, List.length_drop, List.length_cons, List.length_nil, ints_len, List.length_replicate, Go.Cv.vals_len]; omega))) ?_
                   | refine ⟨_, _, rfl, ints_get (by first | omega | (simp only [ints_len] at *; omega)), ?_⟩
                   | refine ⟨_, _, (Int.toNat_of_nonneg (by first | omega | (simp only [ints_len] at *; omega))).symm, ints_get (by first | omega | (simp only [ints_len] at *; omega)), ?_⟩
                   | fail)
          all_goals try (conv => whnf)
          refine ⟨(x1, x2, x3, x4), .inr ⟨a, b, hP, hc, ?_⟩, rfl, Imp.refl _⟩
          by_cases fb : FinC b
          · have hdr : FinC a → 0 ≤ drf a b := fun fa => by
              have : ¬drf a b < 0 := fun h => hno ⟨fa, fb, h⟩
              omega
            have hV : ∀ t, t < 400 + com a b → max 0 (wmn (dif a b) (L - t) t) = amn a b t := fun t ht => by
              unfold amn; rw [wmn_any va vb fb hdr (by omega)]
            refine .inr ⟨⟨fb, hdr⟩, madeP_mk c1 (by rw [vals_len]; omega) (fun t ht => ?_) (fun m hm h => ?_) (fun h => ?_) hx⟩
            · rw [vals_len] at ht; rw [vals_get ht, hV t ht]
            · rw [vals_len] at hm; exact amn_inf va vb fb (by omega) h
            · rw [vals_len, show 400 + com a b - com a b = 400 by omega]
              rcases hJ with ⟨rfl, fa, _, h1, h2⟩ | ⟨rfl, h1⟩
              · refine amn_per va vb fa fb (by omega) (fun u hu => ?_)
                obtain ⟨r, g1, g2, g3⟩ := down va vb fb hdr hu
                have := h2 r (by omega) (by omega)
                omega
              · have h2 := (amn_still va vb fb (fun fa => by
                  have := hdr fa
                  have : ¬0 < drf a b := fun h => h1 ⟨fa, fb, h⟩
                  omega)).mul (com a b)
                rw [Nat.mul_one, Int.mul_zero] at h2
                exact h2.mono (by omega)
          · have hV : ∀ t, t < 400 + com a b → max 0 (wmn (dif a b) (L - t) t) = 0 := fun t ht => by
              have h1 := wmn_le (d := dif a b) (n := L - t) (t := t) (s := L) (by omega) (by omega)
              rw [dif_late va vb (fun h => fb h.2) (show frm a b ≤ L by omega), if_neg fb] at h1
              omega
            refine .inl ⟨fun h => fb h.1, madeP_mk c1 (by rw [vals_len]; omega) (fun t ht => ?_) (fun m hm h => ?_) (fun h => ?_) hx⟩
            · rw [vals_len] at ht; rw [vals_get ht, hV t ht]
            · simp [INF] at h
            · rcases hJ with ⟨rfl, _, h1, _⟩ | ⟨rfl, _⟩
              · exact absurd h1 fb
              · intro t _; simp
      · obtain ⟨t, rfl⟩ : ∃ t, y = t + 1 := ⟨y - 1, by omega⟩
        have e : (((t + 1 : Nat) : Int) - 1) = t := by omega
        simp only [e]
        have hst := lsr_step (d := dif a b) (L := L) (t := t) (by omega) (hdl L (by omega))
        have hlr : (rdn (fun t => max 0 (wmn (dif a b) (L - t) t)) (min (t + 1) (400 + com a b)) (400 + com a b)).length = 400 + com a b := rdn_len _ (by omega)
        have els : lsr (dif a b) L t = max 0 (wmn (dif a b) (L - t) t) := by unfold lsr; rw [if_neg (by omega)]
        repeat' (conv => whnf
                 first
                 | (refine CondOb.mk (fun _ => ?_) (fun _ => ?_) <;> first | (exfalso; omega) | skip)
                 | refine ArOb.fits (by first | omega | (simp only [ints_len] at *; omega)) ?_
                 | refine LitOb.vec ?_
                 | refine MakeOb.vec ?_
                 | refine AllocOb.box ?_
                 | refine AggOb.mk (by decide +kernel) ?_
                 | refine ArU.fits (by first | omega | (simp only [ints_len] at *; omega)) ?_
                 | refine ArB.fits (by first | omega | (simp only [ints_len] at *; omega)) ?_
                 | refine CutOb.split ?_
                 | refine And.intro (And.intro (by (simp only [List.length_append, List.length_take, List.length_drop, List.length_cons, List.length_nil, ints_len, List.length_replicate, Go.Cv.vals_len]; omega)) (by (simp only [List.length_append, List.length_take, List.length_drop, List.length_cons, List.length_nil, ints_len, List.length_replicate, Go.Cv.vals_len]; omega))) ?_
                 | refine ⟨_, _, rfl, ints_get (by first | omega | (simp only [ints_len] at *; omega)), ?_⟩
                 | refine ⟨_, _, (Int.toNat_of_nonneg (by first | omega | (simp only [ints_len] at *; omega))).symm, ints_get (by first | omega | (simp only [ints_len] at *; omega)), ?_⟩
                 | fail)
        all_goals try (conv => whnf)
        refine .mk [] ?_
        repeat' (conv => whnf
                 first
                 | (refine CondOb.mk (fun _ => ?_) (fun _ => ?_) <;> first | (exfalso; omega) | skip)
                 | refine ArOb.fits (by first | omega | (simp only [ints_len] at *; omega)) ?_
                 | refine LitOb.vec ?_
                 | refine MakeOb.vec ?_
                 | refine AllocOb.box ?_
                 | refine AggOb.mk (by decide +kernel) ?_
                 | refine ArU.fits (by first | omega | (simp only [ints_len] at *; omega)) ?_
                 | refine ArB.fits (by first | omega | (simp only [ints_len] at *; omega)) ?_
                 | refine CutOb.split ?_
                 | refine And.intro (And.intro (by (simp only [List.length_append, List.length_take, List.length_drop, List.length_cons, List.length_nil, ints_len, List.length_replicate, Go.Cv.vals_len]; omega)) (by (simp only [List.length_append, List.length_take, List.length_drop, List.length_cons, List.length_nil, ints_len, List.length_replicate, Go.Cv.vals_len]; omega))) ?_
                 | refine ⟨_, _, rfl, ints_get (by first | omega | (simp only [ints_len] at *; omega)), ?_⟩
                 | refine ⟨_, _, (Int.toNat_of_nonneg (by first | omega | (simp only [ints_len] at *; omega))).symm, ints_get (by first | omega | (simp only [ints_len] at *; omega)), ?_⟩
                 | (refine CallOb.mk [] (rdiff_ok a b t va vb (by omega)) rfl (ImpL.refl _) rfl rfl ?_; rintro _ _ ⟨rfl, rfl⟩)
                 | fail)
        all_goals try (conv => whnf)
        · have htl : t < 400 + com a b := by simp only [ints_len] at *; omega
          refine ⟨t, rfl, by rw [ints_len]; omega, ?_⟩
          repeat' (conv => whnf
                   first
                   | refine CondOb.mk (fun _ => ?_) (fun _ => ?_)
                   | refine ArOb.fits (by first | omega | (simp only [ints_len] at *; omega)) ?_
                   | refine LitOb.vec ?_
                   | refine MakeOb.vec ?_
                   | refine AllocOb.box ?_
                   | refine AggOb.mk (by decide +kernel) ?_
                   | refine ArU.fits (by first | omega | (simp only [ints_len] at *; omega)) ?_
                   | refine ArB.fits (by first | omega | (simp only [ints_len] at *; omega)) ?_
                   | refine CutOb.split ?_
                   | refine And.intro (And.intro (by (simp only [List.length_append, List.length_take, List.length_drop, List.length_cons, List.length_nil, ints_len, List.length_replicate, Go.Cv.vals_len]; omega)) (by (simp only [List.length_append, List.length_take, List.length_drop, List.length_cons, List.length_nil, ints_len, List.length_replicate, Go.Cv.vals_len]; omega))) ?_
                   | refine ⟨_, _, rfl, ints_get (by first | omega | (simp only [ints_len] at *; omega)), ?_⟩
                   | refine ⟨_, _, (Int.toNat_of_nonneg (by first | omega | (simp only [ints_len] at *; omega))).symm, ints_get (by first | omega | (simp only [ints_len] at *; omega)), ?_⟩
                   | fail)
          all_goals try (conv => whnf)
          refine ⟨_, ints_get (by omega), ?_⟩
          repeat' (conv => whnf
                   first
                   | refine ArOb.fits (by first | omega | (simp only [ints_len] at *; omega)) ?_
                   | refine LitOb.vec ?_
                   | refine MakeOb.vec ?_
                   | refine AllocOb.box ?_
                   | refine AggOb.mk (by decide +kernel) ?_
                   | refine ArU.fits (by first | omega | (simp only [ints_len] at *; omega)) ?_
                   | refine ArB.fits (by first | omega | (simp only [ints_len] at *; omega)) ?_
                   | refine CutOb.split ?_
                   | refine And.intro (And.intro (by (simp only [List.length_append, List.length_take, List.length_drop, List.length_cons, List.length_nil, ints_len, List.length_replicate, Go.Cv.vals_len]; omega)) (by (simp only [List.length_append, List.length_take, List.length_drop, List.length_cons, List.length_nil, ints_len, List.length_replicate, Go.Cv.vals_len]; omega))) ?_
                   | refine ⟨_, _, rfl, ints_get (by first | omega | (simp only [ints_len] at *; omega)), ?_⟩
                   | refine ⟨_, _, (Int.toNat_of_nonneg (by first | omega | (simp only [ints_len] at *; omega))).symm, ints_get (by first | omega | (simp only [ints_len] at *; omega)), ?_⟩
                   | fail)
          all_goals try (conv => whnf)
          rw [hst, show min (t + 1) (400 + com a b) = t + 1 by omega, rdn_set (fun t => max 0 (wmn (dif a b) (L - t) t)) htl]
          repeat' (conv => whnf
                   first
                   | (refine CondOb.mk (fun _ => ?_) (fun _ => ?_) <;> first | (exfalso; omega) | skip)
                   | refine ArOb.fits (by first | omega | (simp only [ints_len] at *; omega)) ?_
                   | refine LitOb.vec ?_
                   | refine MakeOb.vec ?_
                   | refine AllocOb.box ?_
                   | refine AggOb.mk (by decide +kernel) ?_
                   | refine ArU.fits (by first | omega | (simp only [ints_len] at *; omega)) ?_
                   | refine ArB.fits (by first | omega | (simp only [ints_len] at *; omega)) ?_
                   | refine CutOb.split ?_
                   | refine And.intro (And.intro (by (simp only [List.length_append, List.length_take, List.length_drop, List.length_cons, List.length_nil, ints_len, List.length_replicate, Go.Cv.vals_len]; omega)) (by (simp only [List.length_append, List.length_take, List.length_drop, List.length_cons, List.length_nil, ints_len, List.length_replicate, Go.Cv.vals_len]; omega))) ?_
                   | refine ⟨_, _, rfl, ints_get (by first | omega | (simp only [ints_len] at *; omega)), ?_⟩
                   | refine ⟨_, _, (Int.toNat_of_nonneg (by first | omega | (simp only [ints_len] at *; omega))).symm, ints_get (by first | omega | (simp only [ints_len] at *; omega)), ?_⟩
                   | fail)
          all_goals try (conv => whnf)
          refine .mk [] ?_
          refine ⟨t, [0, 1, 2, 3, 4], by omega, by omega, ?_⟩
          rw [els, show min t (400 + com a b) = t by omega]
          (refine Le.mk (by kernel_rfl) ?_ ?_ <;> repeat' (first | exact True.intro | refine And.intro ?_ ?_ | exact Imp.refl _ | exact Imp.any _ | exact Imp.num (by first | omega | simp only [ints_len]) | exact rfl))
        · have htl : ¬t < 400 + com a b := by simp only [ints_len] at *; omega
          refine .mk [] ?_
          refine ⟨t, [0, 1, 2, 3, 4], by omega, by omega, ?_⟩
          rw [els, hst, show min t (400 + com a b) = 400 + com a b by omega, show min (t + 1) (400 + com a b) = 400 + com a b by omega]
          (refine Le.mk (by kernel_rfl) ?_ ?_ <;> repeat' (first | exact True.intro | refine And.intro ?_ ?_ | exact Imp.refl _ | exact Imp.any _ | exact Imp.num (by first | omega | simp only [ints_len]) | exact rfl))
end Go.Proofs.Ytppdpfaipkjpmaa
