/-
  A text of the proofs of this seat: lemmas that the statements' proofs use; it states nothing of the program by itself beyond the contracts that its theorems bear. Conditions: those that stand in each theorem. Its short name: C12.
-/
import Derived.Test.YtabbnnfobjifiaaC7
import Derived.Test.YtabbnnfobjifiaaK7
import Derived.Test.YtabbnnfobjifiaaTf
import Derived.Test.YtabbnnfobjifiaaSl
import Derived.Test.YtabbnnfobjifiaaPl
set_option linter.unusedVariables false
set_option linter.unusedSimpArgs false
namespace Go.Proofs.Ytabbnnfobjifiaa
open Go.Sx Go.Pk Go.Cv Go.St
set_option maxRecDepth 8000
set_option maxHeartbeats 2000000
--APPX pks_len, Go.Cv.vals_len
theorem sels_fs (p : List Pk) (flow : Int) : sels p flow = fs flow p := by
  unfold sels slP
  rw [selN_fs p flow _ (Nat.le_refl _), List.take_length]
theorem zero_q {most : Nat} {f : C3} (h : ZeroP most f) : f.2.2 ≤ 100000 := by
  obtain ⟨a, na, hz⟩ := h.n
  have hs : ∀ t, cv f (t + 1) ≤ cv f t + 9 := fun t => by rw [← na.cv, ← na.cv]; exact hz.s t
  have hk : ∀ k t : Nat, cv f (t + k) ≤ cv f t + 9 * k := by
    intro k t
    induction k with
    | zero => simp
    | succ k ih => have := hs (t + k); rw [show t + (k + 1) = t + k + 1 by omega]; push_cast; omega
  have hp := h.v.per (f.1.length - f.2.1) (Nat.le_refl _)
  have e : cv f (f.1.length - f.2.1 + f.2.1) = cv f (f.1.length - f.2.1) + f.2.2 := hp
  have := hk f.2.1 (f.1.length - f.2.1)
  have := h.v.p2
  omega
theorem Shapes_ok (l : List Int) (hl : l.length ≤ 9223372036854775807) : Ctr Try.prog 3 [.psl 1 (ints l)] [] (fun r o => r = .bl true) := by
  refine fn_intro (E := env 0) tys_ok rfl rfl rfl Try.func3 (by kernel_rfl) rfl (by kernel_rfl) ?_
  have hL : (l.take 2000).length ≤ 2000 := by rw [List.length_take]; omega
  repeat' (conv => whnf
           first | (refine CondOb.mk (fun _ => ?_) (fun _ => ?_) <;> first | (exfalso; omega) | skip) | refine ArOb.fits (by first | omega | (simp only [ints_len] at *; omega)) ?_ | refine LitOb.vec ?_ | refine MakeOb.vec ?_ | refine AllocOb.box ?_ | refine AsgOb.vec ?_ | refine AggOb.mk (by decide +kernel) ?_ | refine ArU.fits (by first | omega | (simp only [ints_len] at *; omega)) ?_ | refine ArB.fits (by first | omega | (simp only [ints_len] at *; omega)) ?_ | refine CutOb.split ?_ | refine Gh.mk [] ?_ | refine And.intro (And.intro (by (simp only [List.length_append, List.length_take, List.length_drop, List.length_cons, List.length_nil, ints_len, List.length_replicate, pks_len, Go.Cv.vals_len]; omega)) (by (simp only [List.length_append, List.length_take, List.length_drop, List.length_cons, List.length_nil, ints_len, List.length_replicate, pks_len, Go.Cv.vals_len]; omega))) ?_ | refine ⟨_, _, rfl, ints_get (by first | omega | (simp only [ints_len] at *; omega)), ?_⟩ | refine ⟨_, _, (Int.toNat_of_nonneg (by first | omega | (simp only [ints_len] at *; omega))).symm, ints_get (by first | omega | (simp only [ints_len] at *; omega)), ?_⟩ | refine DrawOb.mk [] (.qs [0, 1, 2, 3, 4, 5, 6, 7, 8, 9, 10, 11, 12, 13, 14, 15, 16, 17, 18, 19, 20, 21, 22, 23] .nil) (by decide +kernel) ?_ | refine DrawOb.mk [] (.qs [0, 1, 2, 3, 4, 5, 6, 7, 8, 9, 10, 11, 12, 13, 14, 15, 16, 17, 18, 19, 20, 21, 22, 23, 24, 25, 26, 27, 28] .nil) (by decide +kernel) ?_ | (refine CallOb.mk [] (New_ok l hl) rfl (ImpL.refl _) rfl rfl ?_; rintro _ _ ⟨rfl, rfl⟩) | fail)
  all_goals try (conv => whnf)
  refine CallOb.mk [0] (Traffic_ok _ 0 hL (by omega) 8 (by omega) 2 9 (by omega) (by omega)) rfl (ImpL.refl _) rfl rfl ?_
  rintro _ _ ⟨⟨⟨p, tp⟩, k1⟩, ⟨⟨hP, hpl⟩, hk1⟩, rfl, rfl⟩
  dsimp only at hP hpl hk1 ⊢
  have hV := hP.vld (by decide) (by decide) (by omega)
  repeat' (conv => whnf
           first | (refine CondOb.mk (fun _ => ?_) (fun _ => ?_) <;> first | (exfalso; omega) | skip) | refine ArOb.fits (by first | omega | (simp only [ints_len] at *; omega)) ?_ | refine LitOb.vec ?_ | refine MakeOb.vec ?_ | refine AllocOb.box ?_ | refine AsgOb.vec ?_ | refine AggOb.mk (by decide +kernel) ?_ | refine ArU.fits (by first | omega | (simp only [ints_len] at *; omega)) ?_ | refine ArB.fits (by first | omega | (simp only [ints_len] at *; omega)) ?_ | refine CutOb.split ?_ | refine Gh.mk [] ?_ | refine And.intro (And.intro (by (simp only [List.length_append, List.length_take, List.length_drop, List.length_cons, List.length_nil, ints_len, List.length_replicate, pks_len, Go.Cv.vals_len]; omega)) (by (simp only [List.length_append, List.length_take, List.length_drop, List.length_cons, List.length_nil, ints_len, List.length_replicate, pks_len, Go.Cv.vals_len]; omega))) ?_ | refine ⟨_, _, rfl, ints_get (by first | omega | (simp only [ints_len] at *; omega)), ?_⟩ | refine ⟨_, _, (Int.toNat_of_nonneg (by first | omega | (simp only [ints_len] at *; omega))).symm, ints_get (by first | omega | (simp only [ints_len] at *; omega)), ?_⟩ | refine DrawOb.mk [] (.qs [0, 1, 2, 3, 4, 5, 6, 7, 8, 9, 10, 11, 12, 13, 14, 15, 16, 17, 18, 19, 20, 21, 22, 23] .nil) (by decide +kernel) ?_ | refine DrawOb.mk [] (.qs [0, 1, 2, 3, 4, 5, 6, 7, 8, 9, 10, 11, 12, 13, 14, 15, 16, 17, 18, 19, 20, 21, 22, 23, 24, 25, 26, 27, 28] .nil) (by decide +kernel) ?_ | fail)
  all_goals try (conv => whnf)
  refine CallOb.mk [0] (Ctr.impE (Zero_ok _ k1 hL hk1 6 (by omega) (by omega))) rfl (ImpL.refl _) rfl rfl ?_
  rintro _ _ ⟨⟨f, k2⟩, ⟨hf, hk2⟩, rfl, rfl⟩
  dsimp only at hf hk2 ⊢
  have hq := zero_q hf
  have vf := faster hf.v hf.f hq
  have q0 := hf.v.q0
  have p2 := hf.v.p2
  have hsp : sumA (fun x : Pk => x.s) p ≤ 9 * p.length := sumA_le (by decide) fun x hx => (hP.b x hx).2.2.2.1
  have cS := Shape_ok p hV (by omega) 0 (by decide) _ vf (by omega)
  repeat' (conv => whnf
           first | (refine CondOb.mk (fun _ => ?_) (fun _ => ?_) <;> first | (exfalso; omega) | skip) | refine ArOb.fits (by first | omega | (simp only [ints_len] at *; omega)) ?_ | refine LitOb.vec ?_ | refine MakeOb.vec ?_ | refine AllocOb.box ?_ | refine AsgOb.vec ?_ | refine AggOb.mk (by decide +kernel) ?_ | refine ArU.fits (by first | omega | (simp only [ints_len] at *; omega)) ?_ | refine ArB.fits (by first | omega | (simp only [ints_len] at *; omega)) ?_ | refine CutOb.split ?_ | refine Gh.mk [] ?_ | refine And.intro (And.intro (by (simp only [List.length_append, List.length_take, List.length_drop, List.length_cons, List.length_nil, ints_len, List.length_replicate, pks_len, Go.Cv.vals_len]; omega)) (by (simp only [List.length_append, List.length_take, List.length_drop, List.length_cons, List.length_nil, ints_len, List.length_replicate, pks_len, Go.Cv.vals_len]; omega))) ?_ | refine ⟨_, _, rfl, ints_get (by first | omega | (simp only [ints_len] at *; omega)), ?_⟩ | refine ⟨_, _, (Int.toNat_of_nonneg (by first | omega | (simp only [ints_len] at *; omega))).symm, ints_get (by first | omega | (simp only [ints_len] at *; omega)), ?_⟩ | refine DrawOb.mk [] (.qs [0, 1, 2, 3, 4, 5, 6, 7, 8, 9, 10, 11, 12, 13, 14, 15, 16, 17, 18, 19, 20, 21, 22, 23] .nil) (by decide +kernel) ?_ | refine DrawOb.mk [] (.qs [0, 1, 2, 3, 4, 5, 6, 7, 8, 9, 10, 11, 12, 13, 14, 15, 16, 17, 18, 19, 20, 21, 22, 23, 24, 25, 26, 27, 28] .nil) (by decide +kernel) ?_ | fail)
  all_goals try (conv => whnf)
  refine CallOb.mk [] cS rfl (ImpL.refl _) rfl rfl ?_
  rintro _ _ ⟨x, hx, rfl, rfl⟩
  rcases hx with ⟨R, o, hR, rfl⟩ | ⟨hR, rfl⟩
  · have hQ := shaped vf hV hR
    generalize srt ptm o = q at *
    dsimp only
    have hQl := hQ.ln
    have hsq : sumA (fun x : Pk => x.s) q ≤ 9 * q.length := sumA_le (by decide) fun x hx => by
      obtain ⟨y, hy, he⟩ := hQ.z x hx
      have := (hP.b y hy).2.2.2.1
      show x.s ≤ 9
      omega
    have cS2 := Shape_ok q hQ.v (by omega) 0 (by decide) _ vf (by omega)
    have cA := rSelect_ok p (by omega) 0
    have cB := rSelect_ok q (by omega) 0
    have cC := rSelect_ok p (by omega) 1
    have cD := rSelect_ok q (by omega) 1
    rw [sels_fs] at cA cB cC cD
    have cE := pSame_ok q q (by omega)
    have cF := pSame_ok (fs 1 p) (fs 1 q) (by
      have : (fs 1 p).length ≤ p.length := List.length_filter_le _ _
      omega)
    have cK := Keeps_ok q hQ.v 0 (by decide) _ vf
    have hal : (fs 0 p).length ≤ 8 := by
      have : (fs 0 p).length ≤ p.length := List.length_filter_le _ _
      omega
    have hle := hQ.e
    have hn := hQ.n
    have hk := hQ.k
    have ho := hQ.o
    have hag := hQ.a
    have hbb : ∀ x ∈ fs 0 q, ¬bad x := fun x hx => hQ.v.mem x (fs_mem hx).1
    repeat' (conv => whnf
             first | (refine CondOb.mk (fun _ => ?_) (fun _ => ?_) <;> first | (exfalso; omega) | skip) | refine ArOb.fits (by first | omega | (simp only [ints_len] at *; omega)) ?_ | refine LitOb.vec ?_ | refine MakeOb.vec ?_ | refine AllocOb.box ?_ | refine AsgOb.vec ?_ | refine AggOb.mk (by decide +kernel) ?_ | refine ArU.fits (by first | omega | (simp only [ints_len] at *; omega)) ?_ | refine ArB.fits (by first | omega | (simp only [ints_len] at *; omega)) ?_ | refine CutOb.split ?_ | refine Gh.mk [] ?_ | refine And.intro (And.intro (by (simp only [List.length_append, List.length_take, List.length_drop, List.length_cons, List.length_nil, ints_len, List.length_replicate, pks_len, Go.Cv.vals_len]; omega)) (by (simp only [List.length_append, List.length_take, List.length_drop, List.length_cons, List.length_nil, ints_len, List.length_replicate, pks_len, Go.Cv.vals_len]; omega))) ?_ | refine ⟨_, _, rfl, ints_get (by first | omega | (simp only [ints_len] at *; omega)), ?_⟩ | refine ⟨_, _, (Int.toNat_of_nonneg (by first | omega | (simp only [ints_len] at *; omega))).symm, ints_get (by first | omega | (simp only [ints_len] at *; omega)), ?_⟩ | refine DrawOb.mk [] (.qs [0, 1, 2, 3, 4, 5, 6, 7, 8, 9, 10, 11, 12, 13, 14, 15, 16, 17, 18, 19, 20, 21, 22, 23] .nil) (by decide +kernel) ?_ | refine DrawOb.mk [] (.qs [0, 1, 2, 3, 4, 5, 6, 7, 8, 9, 10, 11, 12, 13, 14, 15, 16, 17, 18, 19, 20, 21, 22, 23, 24, 25, 26, 27, 28] .nil) (by decide +kernel) ?_ | fail)
    all_goals try (conv => whnf)
    refine CallOb.mk [] cS2 rfl (ImpL.refl _) rfl rfl ?_
    rintro _ _ ⟨y, hy, rfl, rfl⟩
    have hyq : y = (q, 0) := by
      rcases hy with ⟨R', o', hR', rfl⟩ | ⟨hR', _⟩
      · rw [hag.1] at hR'; cases hR'; rw [hag.2]
      · rw [hag.1] at hR'; cases hR'
    subst hyq
    dsimp only
    generalize fs 0 p = a at *
    generalize fs 0 q = b at *
    have hpa := pks_len a
    have hpb := pks_len b
    repeat' (conv => whnf
             first | (refine CondOb.mk (fun _ => ?_) (fun _ => ?_) <;> first | (exfalso; omega) | skip) | refine ArOb.fits (by first | omega | (simp only [ints_len] at *; omega)) ?_ | refine LitOb.vec ?_ | refine MakeOb.vec ?_ | refine AllocOb.box ?_ | refine AsgOb.vec ?_ | refine AggOb.mk (by decide +kernel) ?_ | refine ArU.fits (by first | omega | (simp only [ints_len] at *; omega)) ?_ | refine ArB.fits (by first | omega | (simp only [ints_len] at *; omega)) ?_ | refine CutOb.split ?_ | refine Gh.mk [] ?_ | refine And.intro (And.intro (by (simp only [List.length_append, List.length_take, List.length_drop, List.length_cons, List.length_nil, ints_len, List.length_replicate, pks_len, Go.Cv.vals_len]; omega)) (by (simp only [List.length_append, List.length_take, List.length_drop, List.length_cons, List.length_nil, ints_len, List.length_replicate, pks_len, Go.Cv.vals_len]; omega))) ?_ | refine ⟨_, _, rfl, ints_get (by first | omega | (simp only [ints_len] at *; omega)), ?_⟩ | refine ⟨_, _, (Int.toNat_of_nonneg (by first | omega | (simp only [ints_len] at *; omega))).symm, ints_get (by first | omega | (simp only [ints_len] at *; omega)), ?_⟩ | refine DrawOb.mk [] (.qs [0, 1, 2, 3, 4, 5, 6, 7, 8, 9, 10, 11, 12, 13, 14, 15, 16, 17, 18, 19, 20, 21, 22, 23] .nil) (by decide +kernel) ?_ | refine DrawOb.mk [] (.qs [0, 1, 2, 3, 4, 5, 6, 7, 8, 9, 10, 11, 12, 13, 14, 15, 16, 17, 18, 19, 20, 21, 22, 23, 24, 25, 26, 27, 28] .nil) (by decide +kernel) ?_ | (refine CallOb.mk [] cA rfl (ImpL.refl _) rfl rfl ?_; rintro _ _ ⟨rfl, rfl⟩) | (refine CallOb.mk [] cB rfl (ImpL.refl _) rfl rfl ?_; rintro _ _ ⟨rfl, rfl⟩) | (refine CallOb.mk [] cC rfl (ImpL.refl _) rfl rfl ?_; rintro _ _ ⟨rfl, rfl⟩) | (refine CallOb.mk [] cD rfl (ImpL.refl _) rfl rfl ?_; rintro _ _ ⟨rfl, rfl⟩) | (refine CallOb.mk [] cE rfl (ImpL.refl _) rfl rfl ?_; rintro _ _ ⟨rfl, rfl⟩) | (refine CallOb.mk [] cF rfl (ImpL.refl _) rfl rfl ?_; rintro _ _ ⟨rfl, rfl⟩) | (refine CallOb.mk [] cK rfl (ImpL.refl _) rfl rfl ?_; rintro _ _ ⟨rfl, rfl⟩) | fail)
    all_goals try (conv => whnf)
    all_goals first
      | (exfalso; omega)
      | exact absurd rfl (by assumption : ¬q = q)
      | exact absurd hk (by assumption)
      | exact absurd ho (by assumption)
      | skip
    refine LoopOb.mk (Y := Nat) (st := fun i => ⟨[(80, i64 i), (79, i64 (pks a).length), (11, .psl 3 (pks b)), (10, .psl 3 (pks a)), (5, .ptr 0 0)], [.box [.psl 1 (ints f.1), i64 f.2.1, i64 (f.2.2 + f.2.1)]]⟩)
      (inv := fun i => i ≤ a.length) (fun i => a.length - i) 0 [1] (by omega) (by (refine Le.mk (by kernel_rfl) ?_ ?_ <;> repeat' (first | exact True.intro | refine And.intro ?_ ?_ | exact Imp.refl _ | exact Imp.any _ | exact Imp.num (by first | omega | simp only [ints_len]) | exact rfl | exact Imp.bl (by simp)))) ?_
    intro i hi
    repeat' (conv => whnf
             first | refine ArOb.fits (by first | omega | (simp only [ints_len] at *; omega)) ?_ | refine LitOb.vec ?_ | refine MakeOb.vec ?_ | refine AllocOb.box ?_ | refine AsgOb.vec ?_ | refine AggOb.mk (by decide +kernel) ?_ | refine ArU.fits (by first | omega | (simp only [ints_len] at *; omega)) ?_ | refine ArB.fits (by first | omega | (simp only [ints_len] at *; omega)) ?_ | refine CutOb.split ?_ | refine Gh.mk [] ?_ | refine And.intro (And.intro (by (simp only [List.length_append, List.length_take, List.length_drop, List.length_cons, List.length_nil, ints_len, List.length_replicate, pks_len, Go.Cv.vals_len]; omega)) (by (simp only [List.length_append, List.length_take, List.length_drop, List.length_cons, List.length_nil, ints_len, List.length_replicate, pks_len, Go.Cv.vals_len]; omega))) ?_ | refine ⟨_, _, rfl, ints_get (by first | omega | (simp only [ints_len] at *; omega)), ?_⟩ | refine ⟨_, _, (Int.toNat_of_nonneg (by first | omega | (simp only [ints_len] at *; omega))).symm, ints_get (by first | omega | (simp only [ints_len] at *; omega)), ?_⟩ | refine DrawOb.mk [] (.qs [0, 1, 2, 3, 4, 5, 6, 7, 8, 9, 10, 11, 12, 13, 14, 15, 16, 17, 18, 19, 20, 21, 22, 23] .nil) (by decide +kernel) ?_ | refine DrawOb.mk [] (.qs [0, 1, 2, 3, 4, 5, 6, 7, 8, 9, 10, 11, 12, 13, 14, 15, 16, 17, 18, 19, 20, 21, 22, 23, 24, 25, 26, 27, 28] .nil) (by decide +kernel) ?_ | fail)
    all_goals try (conv => whnf)
    refine CondOb.mk (fun hlt => ?_) (fun hlt => ?_)
    · have hil : i < a.length := by omega
      have ga := pks_get hil
      have gb := pks_get (l := b) (j := i) (by omega)
      have gb1 : ∀ h : 0 < i, (pks b)[i - 1]? = some (pkw (b.getD (i - 1) pk0)) := fun h => pks_get (by omega)
      obtain ⟨e1, e2, e3⟩ := hle i hil
      have hely : pks (ely b i) = (pks (b.take (i + 1))).set i [i64 (b.getD i pk0).f, i64 ((b.getD i pk0).t - 1), i64 (b.getD i pk0).s] := by
        have hti : (pks (b.take i)).length = i := by rw [pks_len, List.length_take]; omega
        rw [take_snoc (by omega), pks_app, List.set_append_right _ _ (by omega), hti, Nat.sub_self, ely, pks_app]
        rfl
      have htl : (pks (b.take (i + 1))).length = i + 1 := by rw [pks_len, List.length_take]; omega
      have htg : (pks (b.take (i + 1)))[i]? = some (pkw (b.getD i pk0)) := by
        have hti : (pks (b.take i)).length = i := by rw [pks_len, List.length_take]; omega
        rw [take_snoc (by omega), pks_app, List.getElem?_append_right (by omega), hti, Nat.sub_self]; rfl
      have htk : (pks b).take (i + 1) = pks (b.take (i + 1)) := by simp [pks, List.map_take]
      generalize b.getD (i - 1) pk0 = z at *
      have hyb := hbb _ (getD_memP (l := b) (i := i) (by omega))
      unfold bad at hyb
      have cKe := fun hv => Keeps_ok (ely b i) hv 0 (by decide) _ vf
      generalize ely b i = el at *
      generalize b.getD i pk0 = y at *
      generalize a.getD i pk0 = x at *
      generalize pks (b.take (i + 1)) = B at *
      repeat' (conv => whnf
               first | refine ⟨i - 1, _, by omega, gb1 (by omega), ?_⟩ | refine ⟨i, _, rfl, gb, ?_⟩ | refine ⟨i, _, rfl, ga, ?_⟩ | (refine CondOb.mk (fun _ => ?_) (fun _ => ?_) <;> first | (exfalso; omega) | skip) | refine ArOb.fits (by first | omega | (simp only [ints_len] at *; omega)) ?_ | refine LitOb.vec ?_ | refine MakeOb.vec ?_ | refine AllocOb.box ?_ | refine AsgOb.vec ?_ | refine AggOb.mk (by decide +kernel) ?_ | refine ArU.fits (by first | omega | (simp only [ints_len] at *; omega)) ?_ | refine ArB.fits (by first | omega | (simp only [ints_len] at *; omega)) ?_ | refine CutOb.split ?_ | refine And.intro (And.intro (by (simp only [List.length_append, List.length_take, List.length_drop, List.length_cons, List.length_nil, ints_len, List.length_replicate, pks_len, Go.Cv.vals_len]; omega)) (by (simp only [List.length_append, List.length_take, List.length_drop, List.length_cons, List.length_nil, ints_len, List.length_replicate, pks_len, Go.Cv.vals_len]; omega))) ?_ | refine ⟨_, _, rfl, ints_get (by first | omega | (simp only [ints_len] at *; omega)), ?_⟩ | refine ⟨_, _, (Int.toNat_of_nonneg (by first | omega | (simp only [ints_len] at *; omega))).symm, ints_get (by first | omega | (simp only [ints_len] at *; omega)), ?_⟩ | refine DrawOb.mk [] (.qs [0, 1, 2, 3, 4, 5, 6, 7, 8, 9, 10, 11, 12, 13, 14, 15, 16, 17, 18, 19, 20, 21, 22, 23] .nil) (by decide +kernel) ?_ | refine DrawOb.mk [] (.qs [0, 1, 2, 3, 4, 5, 6, 7, 8, 9, 10, 11, 12, 13, 14, 15, 16, 17, 18, 19, 20, 21, 22, 23, 24, 25, 26, 27, 28] .nil) (by decide +kernel) ?_ | fail)
      all_goals try (conv => whnf)
      · exact .mk [] ⟨i + 1, [0], by omega, by omega, by (refine Le.mk (by kernel_rfl) ?_ ?_ <;> repeat' (first | exact True.intro | refine And.intro ?_ ?_ | exact Imp.refl _ | exact Imp.any _ | exact Imp.num (by first | omega | simp only [ints_len]) | exact rfl | exact Imp.bl (by simp)))⟩
      · exact .mk [] ⟨i + 1, [0], by omega, by omega, by (refine Le.mk (by kernel_rfl) ?_ ?_ <;> repeat' (first | exact True.intro | refine And.intro ?_ ?_ | exact Imp.refl _ | exact Imp.any _ | exact Imp.num (by first | omega | simp only [ints_len]) | exact rfl | exact Imp.bl (by simp)))⟩
      all_goals
        have e4 : Vld el ∧ ¬Kp (csm el 0) (cv (f.1, f.2.1, f.2.2 + f.2.1)) (endN el) := by
          rcases e3 with h | h | h
          · exfalso; omega
          · exfalso; omega
          · exact h
        have cKe := cKe e4.1
        refine ⟨i + 1, by omega, ?_⟩
        have hd0 : List.drop 0 (List.take (i + 1) (pks b)) = B := by rw [List.drop_zero, htk]
        repeat' (conv => whnf
                 first | (refine CondOb.mk (fun _ => ?_) (fun _ => ?_) <;> first | (exfalso; omega) | skip) | refine ArOb.fits (by first | omega | (simp only [ints_len] at *; omega)) ?_ | refine LitOb.vec ?_ | refine MakeOb.vec ?_ | refine AllocOb.box ?_ | refine AsgOb.vec ?_ | refine AggOb.mk (by decide +kernel) ?_ | refine ArU.fits (by first | omega | (simp only [ints_len] at *; omega)) ?_ | refine ArB.fits (by first | omega | (simp only [ints_len] at *; omega)) ?_ | refine CutOb.split ?_ | refine And.intro (And.intro (by (simp only [List.length_append, List.length_take, List.length_drop, List.length_cons, List.length_nil, ints_len, List.length_replicate, pks_len, Go.Cv.vals_len]; omega)) (by (simp only [List.length_append, List.length_take, List.length_drop, List.length_cons, List.length_nil, ints_len, List.length_replicate, pks_len, Go.Cv.vals_len]; omega))) ?_ | refine ⟨_, _, rfl, ints_get (by first | omega | (simp only [ints_len] at *; omega)), ?_⟩ | refine ⟨_, _, (Int.toNat_of_nonneg (by first | omega | (simp only [ints_len] at *; omega))).symm, ints_get (by first | omega | (simp only [ints_len] at *; omega)), ?_⟩ | refine DrawOb.mk [] (.qs [0, 1, 2, 3, 4, 5, 6, 7, 8, 9, 10, 11, 12, 13, 14, 15, 16, 17, 18, 19, 20, 21, 22, 23] .nil) (by decide +kernel) ?_ | refine DrawOb.mk [] (.qs [0, 1, 2, 3, 4, 5, 6, 7, 8, 9, 10, 11, 12, 13, 14, 15, 16, 17, 18, 19, 20, 21, 22, 23, 24, 25, 26, 27, 28] .nil) (by decide +kernel) ?_ | fail)
        all_goals try (conv => whnf)
        refine And.intro ⟨by omega, by omega⟩ ?_
        dsimp only
        rw [hd0]
        repeat' (conv => whnf
                 first | refine ⟨_, htg, ?_⟩ | refine ⟨i, by omega, by (first | omega | (simp; omega)), ?_⟩ | (refine CondOb.mk (fun _ => ?_) (fun _ => ?_) <;> first | (exfalso; omega) | skip) | refine ArOb.fits (by first | omega | (simp only [ints_len] at *; omega)) ?_ | refine LitOb.vec ?_ | refine MakeOb.vec ?_ | refine AllocOb.box ?_ | refine AsgOb.vec ?_ | refine AggOb.mk (by decide +kernel) ?_ | refine ArU.fits (by first | omega | (simp only [ints_len] at *; omega)) ?_ | refine ArB.fits (by first | omega | (simp only [ints_len] at *; omega)) ?_ | refine CutOb.split ?_ | refine And.intro (And.intro (by (simp only [List.length_append, List.length_take, List.length_drop, List.length_cons, List.length_nil, ints_len, List.length_replicate, pks_len, Go.Cv.vals_len]; omega)) (by (simp only [List.length_append, List.length_take, List.length_drop, List.length_cons, List.length_nil, ints_len, List.length_replicate, pks_len, Go.Cv.vals_len]; omega))) ?_ | refine ⟨_, _, rfl, ints_get (by first | omega | (simp only [ints_len] at *; omega)), ?_⟩ | refine ⟨_, _, (Int.toNat_of_nonneg (by first | omega | (simp only [ints_len] at *; omega))).symm, ints_get (by first | omega | (simp only [ints_len] at *; omega)), ?_⟩ | refine DrawOb.mk [] (.qs [0, 1, 2, 3, 4, 5, 6, 7, 8, 9, 10, 11, 12, 13, 14, 15, 16, 17, 18, 19, 20, 21, 22, 23] .nil) (by decide +kernel) ?_ | refine DrawOb.mk [] (.qs [0, 1, 2, 3, 4, 5, 6, 7, 8, 9, 10, 11, 12, 13, 14, 15, 16, 17, 18, 19, 20, 21, 22, 23, 24, 25, 26, 27, 28] .nil) (by decide +kernel) ?_ | fail)
        all_goals try (conv => whnf)
        have hely2 : ([] ++ B).set i [i64 y.f, i64 (y.t - 1), i64 y.s] = pks el := hely.symm
        rw [hely2]
        refine .mk [.fz 2] ?_
        refine CallOb.mk [] cKe rfl (ImpL.refl _) rfl rfl ?_
        rintro _ _ ⟨rfl, rfl⟩
        repeat' (conv => whnf
                 first | (refine CondOb.mk (fun _ => ?_) (fun _ => ?_) <;> first | (exfalso; omega) | skip) | refine ArOb.fits (by first | omega | (simp only [ints_len] at *; omega)) ?_ | refine LitOb.vec ?_ | refine MakeOb.vec ?_ | refine AllocOb.box ?_ | refine AsgOb.vec ?_ | refine AggOb.mk (by decide +kernel) ?_ | refine ArU.fits (by first | omega | (simp only [ints_len] at *; omega)) ?_ | refine ArB.fits (by first | omega | (simp only [ints_len] at *; omega)) ?_ | refine CutOb.split ?_ | refine Gh.mk [] ?_ | refine And.intro (And.intro (by (simp only [List.length_append, List.length_take, List.length_drop, List.length_cons, List.length_nil, ints_len, List.length_replicate, pks_len, Go.Cv.vals_len]; omega)) (by (simp only [List.length_append, List.length_take, List.length_drop, List.length_cons, List.length_nil, ints_len, List.length_replicate, pks_len, Go.Cv.vals_len]; omega))) ?_ | refine ⟨_, _, rfl, ints_get (by first | omega | (simp only [ints_len] at *; omega)), ?_⟩ | refine ⟨_, _, (Int.toNat_of_nonneg (by first | omega | (simp only [ints_len] at *; omega))).symm, ints_get (by first | omega | (simp only [ints_len] at *; omega)), ?_⟩ | refine DrawOb.mk [] (.qs [0, 1, 2, 3, 4, 5, 6, 7, 8, 9, 10, 11, 12, 13, 14, 15, 16, 17, 18, 19, 20, 21, 22, 23] .nil) (by decide +kernel) ?_ | refine DrawOb.mk [] (.qs [0, 1, 2, 3, 4, 5, 6, 7, 8, 9, 10, 11, 12, 13, 14, 15, 16, 17, 18, 19, 20, 21, 22, 23, 24, 25, 26, 27, 28] .nil) (by decide +kernel) ?_ | fail)
        all_goals try (conv => whnf)
        all_goals first
          | exact absurd (by assumption) e4.2
          | exact ⟨i + 1, [0], by omega, by omega, by (refine Le.mk (by kernel_rfl) ?_ ?_ <;> repeat' (first | exact True.intro | refine And.intro ?_ ?_ | exact Imp.refl _ | exact Imp.any _ | exact Imp.num (by first | omega | simp only [ints_len]) | exact rfl | exact Imp.bl (by simp)))⟩
          | trace_state
    · repeat' (conv => whnf
               first | (refine CondOb.mk (fun _ => ?_) (fun _ => ?_) <;> first | (exfalso; omega) | skip) | refine ArOb.fits (by first | omega | (simp only [ints_len] at *; omega)) ?_ | refine LitOb.vec ?_ | refine MakeOb.vec ?_ | refine AllocOb.box ?_ | refine AsgOb.vec ?_ | refine AggOb.mk (by decide +kernel) ?_ | refine ArU.fits (by first | omega | (simp only [ints_len] at *; omega)) ?_ | refine ArB.fits (by first | omega | (simp only [ints_len] at *; omega)) ?_ | refine CutOb.split ?_ | refine Gh.mk [] ?_ | refine And.intro (And.intro (by (simp only [List.length_append, List.length_take, List.length_drop, List.length_cons, List.length_nil, ints_len, List.length_replicate, pks_len, Go.Cv.vals_len]; omega)) (by (simp only [List.length_append, List.length_take, List.length_drop, List.length_cons, List.length_nil, ints_len, List.length_replicate, pks_len, Go.Cv.vals_len]; omega))) ?_ | refine ⟨_, _, rfl, ints_get (by first | omega | (simp only [ints_len] at *; omega)), ?_⟩ | refine ⟨_, _, (Int.toNat_of_nonneg (by first | omega | (simp only [ints_len] at *; omega))).symm, ints_get (by first | omega | (simp only [ints_len] at *; omega)), ?_⟩ | refine DrawOb.mk [] (.qs [0, 1, 2, 3, 4, 5, 6, 7, 8, 9, 10, 11, 12, 13, 14, 15, 16, 17, 18, 19, 20, 21, 22, 23] .nil) (by decide +kernel) ?_ | refine DrawOb.mk [] (.qs [0, 1, 2, 3, 4, 5, 6, 7, 8, 9, 10, 11, 12, 13, 14, 15, 16, 17, 18, 19, 20, 21, 22, 23, 24, 25, 26, 27, 28] .nil) (by decide +kernel) ?_ | (refine CallOb.mk [] (awake14_ok) rfl (ImpL.refl _) rfl rfl ?_; rintro _ _ ⟨rfl, rfl⟩) | fail)
      all_goals try (conv => whnf)
      all_goals first
        | rfl
        | trace_state
  · dsimp only
    repeat' (conv => whnf
             first | (refine CondOb.mk (fun _ => ?_) (fun _ => ?_) <;> first | (exfalso; omega) | skip) | refine ArOb.fits (by first | omega | (simp only [ints_len] at *; omega)) ?_ | refine LitOb.vec ?_ | refine MakeOb.vec ?_ | refine AllocOb.box ?_ | refine AsgOb.vec ?_ | refine AggOb.mk (by decide +kernel) ?_ | refine ArU.fits (by first | omega | (simp only [ints_len] at *; omega)) ?_ | refine ArB.fits (by first | omega | (simp only [ints_len] at *; omega)) ?_ | refine CutOb.split ?_ | refine Gh.mk [] ?_ | refine And.intro (And.intro (by (simp only [List.length_append, List.length_take, List.length_drop, List.length_cons, List.length_nil, ints_len, List.length_replicate, pks_len, Go.Cv.vals_len]; omega)) (by (simp only [List.length_append, List.length_take, List.length_drop, List.length_cons, List.length_nil, ints_len, List.length_replicate, pks_len, Go.Cv.vals_len]; omega))) ?_ | refine ⟨_, _, rfl, ints_get (by first | omega | (simp only [ints_len] at *; omega)), ?_⟩ | refine ⟨_, _, (Int.toNat_of_nonneg (by first | omega | (simp only [ints_len] at *; omega))).symm, ints_get (by first | omega | (simp only [ints_len] at *; omega)), ?_⟩ | refine DrawOb.mk [] (.qs [0, 1, 2, 3, 4, 5, 6, 7, 8, 9, 10, 11, 12, 13, 14, 15, 16, 17, 18, 19, 20, 21, 22, 23] .nil) (by decide +kernel) ?_ | refine DrawOb.mk [] (.qs [0, 1, 2, 3, 4, 5, 6, 7, 8, 9, 10, 11, 12, 13, 14, 15, 16, 17, 18, 19, 20, 21, 22, 23, 24, 25, 26, 27, 28] .nil) (by decide +kernel) ?_ | (refine CallOb.mk [] (awake14_ok) rfl (ImpL.refl _) rfl rfl ?_; rintro _ _ ⟨rfl, rfl⟩) | fail)
    all_goals try (conv => whnf)
    all_goals first
      | rfl
      | (exfalso; omega)
      | trace_state
end Go.Proofs.Ytabbnnfobjifiaa
