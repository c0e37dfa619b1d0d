/-
  A text of the proofs of this seat: lemmas that the statements' proofs use; it states nothing of the program by itself beyond the contracts that its theorems bear. Conditions: those that stand in each theorem. Its short name: C15.
-/
import Derived.Test.YtabbnnfobjifiaaC7
import Derived.Test.YtabbnnfobjifiaaC13
import Derived.Test.YtabbnnfobjifiaaK7
import Derived.Test.YtabbnnfobjifiaaTv
import Derived.Test.YtabbnnfobjifiaaBy
import Derived.Test.YtabbnnfobjifiaaPl
set_option linter.unusedVariables false
set_option linter.unusedSimpArgs false
namespace Go.Proofs.Ytabbnnfobjifiaa
open Go.Sx Go.Pk Go.Cv Go.St
set_option maxRecDepth 8000
set_option maxHeartbeats 2000000
--APPX pks_len, Go.Cv.vals_len
/- packets of one size -/
abbrev szz (size : Int) (x : Pk) : Pk := ⟨x.f, x.t, size⟩
theorem grO_srt {f : C3} {flow size : Int} : ∀ {R : List (Int × Int)}, Par f R → Srt ptm (grO flow size R)
  | [], _ => trivial
  | y :: R, h => by
    have e : grO flow size (y :: R) = grO flow size R ++ [⟨flow, y.1, size⟩] := by simp [grO]
    rw [e]
    refine srt_app_up (grO_srt h.2.2) fun x hx => ?_
    obtain ⟨z, hz, rfl⟩ := List.mem_map.1 hx
    exact h.le z (List.mem_reverse.1 hz)
theorem grO_rv {size : Int} : ∀ {R : List (Int × Int)}, (∀ y ∈ R, y.2 = size) → rv (fs 0 (grO 0 size R)) = R := fun {R} h => by
  rw [fs_idem fun x hx => by obtain ⟨z, _, rfl⟩ := List.mem_map.1 hx; exact .inr ⟨rfl, Int.le_refl _⟩]
  simp only [rv, grO, List.map_map, ← List.map_reverse, List.reverse_reverse]
  conv => rhs; rw [← List.map_id R]
  refine List.map_congr_left fun y hy => ?_
  have := h y hy
  show (y.1, size) = y
  rw [← this]
theorem Greed_ok (l : List Int) (hl : l.length ≤ 9223372036854775807) : Ctr Try.prog 5 [.psl 1 (ints l)] [] (fun r o => r = .bl true) := by
  refine fn_intro (E := env 0) tys_ok rfl rfl rfl Try.func5 (by kernel_rfl) rfl (by kernel_rfl) ?_
  have hL : (l.take 2000).length ≤ 2000 := by rw [List.length_take]; omega
  repeat' (conv => whnf
           first | (refine CondOb.mk (fun _ => ?_) (fun _ => ?_) <;> first | (exfalso; omega) | skip) | refine ArOb.fits (by first | omega | (simp only [ints_len] at *; omega)) ?_ | refine LitOb.vec ?_ | refine MakeOb.vec ?_ | refine AllocOb.box ?_ | refine AsgOb.vec ?_ | refine AggOb.mk (by decide +kernel) ?_ | refine ArU.fits (by first | omega | (simp only [ints_len] at *; omega)) ?_ | refine ArB.fits (by first | omega | (simp only [ints_len] at *; omega)) ?_ | refine CutOb.split ?_ | refine Gh.mk [] ?_ | refine And.intro (And.intro (by (simp only [List.length_append, List.length_take, List.length_drop, List.length_cons, List.length_nil, ints_len, List.length_replicate, pks_len, Go.Cv.vals_len]; omega)) (by (simp only [List.length_append, List.length_take, List.length_drop, List.length_cons, List.length_nil, ints_len, List.length_replicate, pks_len, Go.Cv.vals_len]; omega))) ?_ | refine ⟨_, _, rfl, ints_get (by first | omega | (simp only [ints_len] at *; omega)), ?_⟩ | refine ⟨_, _, (Int.toNat_of_nonneg (by first | omega | (simp only [ints_len] at *; omega))).symm, ints_get (by first | omega | (simp only [ints_len] at *; omega)), ?_⟩ | (refine CallOb.mk [] (New_ok l hl) rfl (ImpL.refl _) rfl rfl ?_; rintro _ _ ⟨rfl, rfl⟩) | fail)
  all_goals try (conv => whnf)
  refine CallOb.mk [0] (Ctr.impE (Zero_ok _ 0 hL (by omega) 6 (by omega) (by omega))) rfl (ImpL.refl _) rfl rfl ?_
  rintro _ _ ⟨⟨f, k1⟩, ⟨hf, hk1⟩, rfl, rfl⟩
  dsimp only at hf hk1 ⊢
  have vf := hf.v
  repeat' (conv => whnf
           first | (refine CondOb.mk (fun _ => ?_) (fun _ => ?_) <;> first | (exfalso; omega) | skip) | refine ArOb.fits (by first | omega | (simp only [ints_len] at *; omega)) ?_ | refine LitOb.vec ?_ | refine MakeOb.vec ?_ | refine AllocOb.box ?_ | refine AsgOb.vec ?_ | refine AggOb.mk (by decide +kernel) ?_ | refine ArU.fits (by first | omega | (simp only [ints_len] at *; omega)) ?_ | refine ArB.fits (by first | omega | (simp only [ints_len] at *; omega)) ?_ | refine CutOb.split ?_ | refine Gh.mk [] ?_ | refine And.intro (And.intro (by (simp only [List.length_append, List.length_take, List.length_drop, List.length_cons, List.length_nil, ints_len, List.length_replicate, pks_len, Go.Cv.vals_len]; omega)) (by (simp only [List.length_append, List.length_take, List.length_drop, List.length_cons, List.length_nil, ints_len, List.length_replicate, pks_len, Go.Cv.vals_len]; omega))) ?_ | refine ⟨_, _, rfl, ints_get (by first | omega | (simp only [ints_len] at *; omega)), ?_⟩ | refine ⟨_, _, (Int.toNat_of_nonneg (by first | omega | (simp only [ints_len] at *; omega))).symm, ints_get (by first | omega | (simp only [ints_len] at *; omega)), ?_⟩ | fail)
  all_goals try (conv => whnf)
  refine CallOb.mk [0] (N_ok _ k1 hL hk1 6 (by omega) (by omega)) rfl (ImpL.refl _) rfl rfl ?_
  rintro _ _ ⟨⟨s0, k2⟩, ⟨hs0, hs1, hk2⟩, rfl, rfl⟩
  dsimp only at hs0 hs1 hk2 ⊢
  obtain ⟨size, hsize⟩ : ∃ size, 1 + s0 = size := ⟨_, rfl⟩
  have hs : 1 ≤ size ∧ size ≤ 6 := by omega
  have cG := Greedy_ok 0 (by omega) f vf size 25 (by omega) (by omega)
  obtain ⟨gp1, gp2⟩ := grN_par vf (size := size) (ticks := 25) 60
  have gm := fun y hy => grN_mem (f := f) (size := size) (ticks := 25) (i := 60) (y := y) hy
  have hmost := fun {R : List (Int × Int)} (hp : Par f R) (hR : ∀ y ∈ R, y.2 = size) (h0 : ∀ y ∈ R, 0 ≤ y.1) (hN : R.length ≤ 60) {t : Int} (htt : t ≤ 25 + 1) => greedy_most vf (size := size) (ticks := 25) (by omega) (by omega) hp hR h0 hN htt
  have hGl : (grN f size 25 60).length ≤ 60 := by
    have h : ∀ i, (grN f size 25 i).length ≤ i := by
      intro i
      induction i with
      | zero => exact Nat.le_refl _
      | succ i ih => simp only [grN]; split; · omega
                     · split; · omega
                       · rw [List.length_cons]; omega
    exact h 60
  generalize grN f size 25 60 = G at *
  have hVg : Vld (grO 0 size G) := vld_of (by simpa using hGl) (fun x hx => by
    obtain ⟨y, hy, rfl⟩ := List.mem_map.1 hx
    have h1 := gp2 y (List.mem_reverse.1 hy)
    have h2 := (gm y (List.mem_reverse.1 hy)).2
    unfold bad; dsimp only; omega) (grO_srt gp1)
  have hrv := grO_rv (size := size) fun y hy => (gm y hy).1
  have hKg : Kp (csm (grO 0 size G) 0) (cv f) (endN (grO 0 size G)) := fun s t hst _ => by
    rw [csm_fs, csm_fs, bef_rv, bef_rv, hrv]
    exact Par.kp vf gp1 (fun y hy => by have := (gm y hy).1; omega) s t hst
  have hbg : ∀ t : Nat, bys (grO 0 size G) 0 t = sumA (befR t) G := fun t => by
    have h := csm_fs (grO 0 size G) 0 t
    rw [bef_rv, hrv] at h; exact h
  have cK := Keeps_ok (grO 0 size G) hVg 0 (by decide) _ vf
  have cBg := fun t : Nat => rBytes_ok (grO 0 size G) (by have := hVg.l; omega) hVg.sml 0 t
  simp only [hbg] at cBg
  generalize grO 0 size G = g at *
  have hgp := pks_len g
  generalize Kp (csm g 0) (cv f) (endN g) = KP at *
  repeat' (conv => whnf
           first | (refine CondOb.mk (fun _ => ?_) (fun _ => ?_) <;> first | (exfalso; omega) | skip) | refine ArOb.fits (by first | omega | (simp only [ints_len] at *; omega)) ?_ | refine LitOb.vec ?_ | refine MakeOb.vec ?_ | refine AllocOb.box ?_ | refine AsgOb.vec ?_ | refine AggOb.mk (by decide +kernel) ?_ | refine ArU.fits (by first | omega | (simp only [ints_len] at *; omega)) ?_ | refine ArB.fits (by first | omega | (simp only [ints_len] at *; omega)) ?_ | refine CutOb.split ?_ | refine Gh.mk [] ?_ | refine And.intro (And.intro (by (simp only [List.length_append, List.length_take, List.length_drop, List.length_cons, List.length_nil, ints_len, List.length_replicate, pks_len, Go.Cv.vals_len]; omega)) (by (simp only [List.length_append, List.length_take, List.length_drop, List.length_cons, List.length_nil, ints_len, List.length_replicate, pks_len, Go.Cv.vals_len]; omega))) ?_ | refine ⟨_, _, rfl, ints_get (by first | omega | (simp only [ints_len] at *; omega)), ?_⟩ | refine ⟨_, _, (Int.toNat_of_nonneg (by first | omega | (simp only [ints_len] at *; omega))).symm, ints_get (by first | omega | (simp only [ints_len] at *; omega)), ?_⟩ | fail)
  all_goals try (conv => whnf)
  refine CallOb.mk [] cG rfl ⟨Imp.refl _, Imp.refl _, Imp.num (by omega), Imp.refl _, trivial⟩ rfl rfl ?_
  rintro _ _ ⟨rfl, rfl⟩
  repeat' (conv => whnf
           first | (refine CondOb.mk (fun _ => ?_) (fun _ => ?_) <;> first | (exfalso; omega) | skip) | refine ArOb.fits (by first | omega | (simp only [ints_len] at *; omega)) ?_ | refine LitOb.vec ?_ | refine MakeOb.vec ?_ | refine AllocOb.box ?_ | refine AsgOb.vec ?_ | refine AggOb.mk (by decide +kernel) ?_ | refine ArU.fits (by first | omega | (simp only [ints_len] at *; omega)) ?_ | refine ArB.fits (by first | omega | (simp only [ints_len] at *; omega)) ?_ | refine CutOb.split ?_ | refine Gh.mk [] ?_ | refine And.intro (And.intro (by (simp only [List.length_append, List.length_take, List.length_drop, List.length_cons, List.length_nil, ints_len, List.length_replicate, pks_len, Go.Cv.vals_len]; omega)) (by (simp only [List.length_append, List.length_take, List.length_drop, List.length_cons, List.length_nil, ints_len, List.length_replicate, pks_len, Go.Cv.vals_len]; omega))) ?_ | refine ⟨_, _, rfl, ints_get (by first | omega | (simp only [ints_len] at *; omega)), ?_⟩ | refine ⟨_, _, (Int.toNat_of_nonneg (by first | omega | (simp only [ints_len] at *; omega))).symm, ints_get (by first | omega | (simp only [ints_len] at *; omega)), ?_⟩ | (refine CallOb.mk [] cK rfl (ImpL.refl _) rfl rfl ?_; rintro _ _ ⟨rfl, rfl⟩) | (refine CallOb.mk [] (awake14_ok) rfl (ImpL.refl _) rfl rfl ?_; rintro _ _ ⟨rfl, rfl⟩) | fail)
  all_goals try (conv => whnf)
  · exact absurd hKg (by assumption)
  · rfl
  refine CallOb.mk [0] (TrafficV_ok _ k2 hL hk2 20 (by omega) 1 1 (by omega) (by omega)) rfl (ImpL.refl _) rfl rfl ?_
  rintro _ _ ⟨⟨⟨p, tp⟩, k3⟩, ⟨⟨hP, hpl⟩, hk3⟩, rfl, rfl⟩
  dsimp only at hP hpl hk3 ⊢
  have hol : ∀ i, i ≤ p.length → ((p.take i).map (szz size)).length = i := fun i hi => by rw [List.length_map, List.length_take]; omega
  repeat' (conv => whnf
           first | (refine CondOb.mk (fun _ => ?_) (fun _ => ?_) <;> first | (exfalso; omega) | skip) | refine ArOb.fits (by first | omega | (simp only [ints_len] at *; omega)) ?_ | refine LitOb.vec ?_ | refine MakeOb.vec ?_ | refine AllocOb.box ?_ | refine AsgOb.vec ?_ | refine AggOb.mk (by decide +kernel) ?_ | refine ArU.fits (by first | omega | (simp only [ints_len] at *; omega)) ?_ | refine ArB.fits (by first | omega | (simp only [ints_len] at *; omega)) ?_ | refine CutOb.split ?_ | refine Gh.mk [] ?_ | refine And.intro (And.intro (by (simp only [List.length_append, List.length_take, List.length_drop, List.length_cons, List.length_nil, ints_len, List.length_replicate, pks_len, Go.Cv.vals_len]; omega)) (by (simp only [List.length_append, List.length_take, List.length_drop, List.length_cons, List.length_nil, ints_len, List.length_replicate, pks_len, Go.Cv.vals_len]; omega))) ?_ | refine ⟨_, _, rfl, ints_get (by first | omega | (simp only [ints_len] at *; omega)), ?_⟩ | refine ⟨_, _, (Int.toNat_of_nonneg (by first | omega | (simp only [ints_len] at *; omega))).symm, ints_get (by first | omega | (simp only [ints_len] at *; omega)), ?_⟩ | fail)
  all_goals try (conv => whnf)
  refine LoopOb.mk (Y := Nat) (st := fun i => ⟨[(43, i64 i), (42, i64 p.length), (8, .vec 1), (6, .psl 3 (pks g)), (5, i64 size), (4, .ptr 0 0)], [.box [.psl 1 (ints f.1), i64 f.2.1, i64 f.2.2], .vec 3 (pks (shO p ((p.take i).map (szz size))))]⟩)
    (inv := fun i => i ≤ p.length) (fun i => p.length - i) 0 [1, 2] (by omega) (by
      have e : shO p ((p.take 0).map (szz size)) = p := by simp [shO]
      have hpp := pks_len p
      rw [e]; (refine Le.mk (by kernel_rfl) ?_ ?_ <;> repeat' (first | exact True.intro | refine And.intro ?_ ?_ | exact Imp.refl _ | exact Imp.any _ | exact Imp.num (by first | omega | simp only [ints_len]) | exact rfl | exact Imp.bl (by simp)))) ?_
  intro i hi
  repeat' (conv => whnf
           first | refine ArOb.fits (by first | omega | (simp only [ints_len] at *; omega)) ?_ | refine LitOb.vec ?_ | refine MakeOb.vec ?_ | refine AllocOb.box ?_ | refine AsgOb.vec ?_ | refine AggOb.mk (by decide +kernel) ?_ | refine ArU.fits (by first | omega | (simp only [ints_len] at *; omega)) ?_ | refine ArB.fits (by first | omega | (simp only [ints_len] at *; omega)) ?_ | refine CutOb.split ?_ | refine Gh.mk [] ?_ | refine And.intro (And.intro (by (simp only [List.length_append, List.length_take, List.length_drop, List.length_cons, List.length_nil, ints_len, List.length_replicate, pks_len, Go.Cv.vals_len]; omega)) (by (simp only [List.length_append, List.length_take, List.length_drop, List.length_cons, List.length_nil, ints_len, List.length_replicate, pks_len, Go.Cv.vals_len]; omega))) ?_ | refine ⟨_, _, rfl, ints_get (by first | omega | (simp only [ints_len] at *; omega)), ?_⟩ | refine ⟨_, _, (Int.toNat_of_nonneg (by first | omega | (simp only [ints_len] at *; omega))).symm, ints_get (by first | omega | (simp only [ints_len] at *; omega)), ?_⟩ | fail)
  all_goals try (conv => whnf)
  refine CondOb.mk (fun hlt => ?_) (fun hlt => ?_)
  · have hil : i < p.length := by omega
    have h1 := hol i hi
    have hil2 : ((p.take i).map (szz size)).length < p.length := by omega
    have hget := shO_get (p := p) (o := (p.take i).map (szz size)) hil2
    have hset := shO_set (p := p) (o := (p.take i).map (szz size)) hil2 (szz size (p.getD i pk0))
    have hsl := shO_len (p := p) (o := (p.take i).map (szz size)) (by omega)
    have e : (p.take i).map (szz size) ++ [szz size (p.getD i pk0)] = (p.take (i + 1)).map (szz size) := by rw [take_snoc hil, List.map_append]; rfl
    rw [e] at hset
    rw [h1] at hget hset
    have hget2 : (pks (shO p ((p.take i).map (szz size))))[i]? = some (pkw (p.getD i pk0)) := by
      show ((shO p _).map pkw)[i]? = _
      rw [List.getElem?_map, hget]; rfl
    have hset2 : (pks (shO p ((p.take i).map (szz size)))).set i (pkw (szz size (p.getD i pk0))) = pks (shO p ((p.take (i + 1)).map (szz size))) := by rw [← hset]; simp [pks, List.map_set]
    have hsl2 := pks_len (shO p ((p.take i).map (szz size)))
    generalize p.getD i pk0 = x at *
    repeat' (conv => whnf
             first | refine ⟨_, hget2, ?_⟩ | refine ⟨i, by omega, by omega, ?_⟩ | (refine CondOb.mk (fun _ => ?_) (fun _ => ?_) <;> first | (exfalso; omega) | skip) | refine ArOb.fits (by first | omega | (simp only [ints_len] at *; omega)) ?_ | refine LitOb.vec ?_ | refine MakeOb.vec ?_ | refine AllocOb.box ?_ | refine AsgOb.vec ?_ | refine AggOb.mk (by decide +kernel) ?_ | refine ArU.fits (by first | omega | (simp only [ints_len] at *; omega)) ?_ | refine ArB.fits (by first | omega | (simp only [ints_len] at *; omega)) ?_ | refine CutOb.split ?_ | refine Gh.mk [] ?_ | refine And.intro (And.intro (by (simp only [List.length_append, List.length_take, List.length_drop, List.length_cons, List.length_nil, ints_len, List.length_replicate, pks_len, Go.Cv.vals_len]; omega)) (by (simp only [List.length_append, List.length_take, List.length_drop, List.length_cons, List.length_nil, ints_len, List.length_replicate, pks_len, Go.Cv.vals_len]; omega))) ?_ | refine ⟨_, _, rfl, ints_get (by first | omega | (simp only [ints_len] at *; omega)), ?_⟩ | refine ⟨_, _, (Int.toNat_of_nonneg (by first | omega | (simp only [ints_len] at *; omega))).symm, ints_get (by first | omega | (simp only [ints_len] at *; omega)), ?_⟩ | fail)
    all_goals try (conv => whnf)
    exact ⟨i + 1, [0, 1], by omega, by omega, by rw [← hset2]; (refine Le.mk (by kernel_rfl) ?_ ?_ <;> repeat' (first | exact True.intro | refine And.intro ?_ ?_ | exact Imp.refl _ | exact Imp.any _ | exact Imp.num (by first | omega | simp only [ints_len]) | exact rfl | exact Imp.bl (by simp)))⟩
  · have e : i = p.length := by omega
    subst e
    rw [List.take_length, shO_full (by simp)]
    have hb : ∀ x ∈ p.map (szz size), 0 ≤ x.t ∧ x.t ≤ tp ∧ x.f = 0 ∧ x.s = size := fun x hx => by
      obtain ⟨y, hy, rfl⟩ := List.mem_map.1 hx
      have := hP.b y hy
      (try dsimp only); omega
    have hpl2 : (p.map (szz size)).length = p.length := by simp
    have htp := hP.t
    have hV : Vld (p.map (szz size)) := vld_of (by omega) (fun x hx => by have := hb x hx; unfold bad; omega) (srt_map hP.s)
    generalize p.map (szz size) = p1 at *
    have hsp : sumA (fun x : Pk => x.s) p1 ≤ 6 * p1.length := sumA_le (by decide) fun x hx => by have := hb x hx; (try dsimp only); omega
    have cS := Police_ok p1 hV (by omega) 0 (by decide) _ vf (by omega)
    obtain ⟨R, q, gg, hN⟩ : ∃ R q gg, pol f 0 p1 p1.length = (R, q, gg) := ⟨_, _, _, rfl⟩
    have hQ := policed vf hV hN
    obtain ⟨i1, i2, _, _, _, _⟩ := pol_inv vf (Nat.le_refl _) hN
    rw [hN] at cS
    have hql := hQ.l
    have hqs : ∀ y ∈ rv (fs 0 q), y.2 = size ∧ 0 ≤ y.1 := fun y hy => by
      obtain ⟨x, hx, rfl⟩ := rv_mem hy
      have := hb x (hQ.z x (fs_mem hx).1)
      (try dsimp only); omega
    have hle : ∀ t : Nat, t ≤ 26 → bys q 0 t ≤ sumA (befR t) G := fun t ht => by
      have h := csm_fs q 0 t
      have h2 := hmost (R := rv (fs 0 q)) (by rw [← i1]; exact i2) (fun y hy => (hqs y hy).1) (fun y hy => (hqs y hy).2) (by
        have : (fs 0 q).length ≤ q.length := List.length_filter_le _ _
        simp only [rv, List.length_reverse, List.length_map]; omega) (t := (t : Int)) (by omega)
      rw [bef_rv] at h
      show csm q 0 t ≤ _
      rw [h]; exact h2
    have cBq := fun t : Nat => rBytes_ok q (by omega) hQ.v.sml 0 t
    generalize hBQ : (fun t : Nat => bys q 0 t) = BQ at *
    have hbq : ∀ t : Nat, bys q 0 t = BQ t := fun t => congrFun hBQ t
    simp only [hbq] at cBq hle
    clear hBQ hbq hQ i1 i2 hN hqs hb hmost
    repeat' (conv => whnf
             first | (refine CondOb.mk (fun _ => ?_) (fun _ => ?_) <;> first | (exfalso; omega) | skip) | refine ArOb.fits (by first | omega | (simp only [ints_len] at *; omega)) ?_ | refine LitOb.vec ?_ | refine MakeOb.vec ?_ | refine AllocOb.box ?_ | refine AsgOb.vec ?_ | refine AggOb.mk (by decide +kernel) ?_ | refine ArU.fits (by first | omega | (simp only [ints_len] at *; omega)) ?_ | refine ArB.fits (by first | omega | (simp only [ints_len] at *; omega)) ?_ | refine CutOb.split ?_ | refine And.intro (And.intro (by (simp only [List.length_append, List.length_take, List.length_drop, List.length_cons, List.length_nil, ints_len, List.length_replicate, pks_len, Go.Cv.vals_len]; omega)) (by (simp only [List.length_append, List.length_take, List.length_drop, List.length_cons, List.length_nil, ints_len, List.length_replicate, pks_len, Go.Cv.vals_len]; omega))) ?_ | refine ⟨_, _, rfl, ints_get (by first | omega | (simp only [ints_len] at *; omega)), ?_⟩ | refine ⟨_, _, (Int.toNat_of_nonneg (by first | omega | (simp only [ints_len] at *; omega))).symm, ints_get (by first | omega | (simp only [ints_len] at *; omega)), ?_⟩ | fail)
    all_goals try (conv => whnf)
    refine .mk [.fz 1] ?_
    refine CallOb.mk [] cS rfl (ImpL.refl _) rfl rfl ?_
    rintro _ _ ⟨rfl, rfl⟩
    dsimp only
    repeat' (conv => whnf
             first | (refine CondOb.mk (fun _ => ?_) (fun _ => ?_) <;> first | (exfalso; omega) | skip) | refine ArOb.fits (by first | omega | (simp only [ints_len] at *; omega)) ?_ | refine LitOb.vec ?_ | refine MakeOb.vec ?_ | refine AllocOb.box ?_ | refine AsgOb.vec ?_ | refine AggOb.mk (by decide +kernel) ?_ | refine ArU.fits (by first | omega | (simp only [ints_len] at *; omega)) ?_ | refine ArB.fits (by first | omega | (simp only [ints_len] at *; omega)) ?_ | refine CutOb.split ?_ | refine Gh.mk [] ?_ | refine And.intro (And.intro (by (simp only [List.length_append, List.length_take, List.length_drop, List.length_cons, List.length_nil, ints_len, List.length_replicate, pks_len, Go.Cv.vals_len]; omega)) (by (simp only [List.length_append, List.length_take, List.length_drop, List.length_cons, List.length_nil, ints_len, List.length_replicate, pks_len, Go.Cv.vals_len]; omega))) ?_ | refine ⟨_, _, rfl, ints_get (by first | omega | (simp only [ints_len] at *; omega)), ?_⟩ | refine ⟨_, _, (Int.toNat_of_nonneg (by first | omega | (simp only [ints_len] at *; omega))).symm, ints_get (by first | omega | (simp only [ints_len] at *; omega)), ?_⟩ | fail)
    all_goals try (conv => whnf)
    refine LoopOb.mk (Y := Nat) (st := fun t => ⟨[(13, i64 t), (10, .psl 3 (pks q)), (6, .psl 3 (pks g))], []⟩)
      (inv := fun t => t ≤ 27) (fun t => 27 - t) 0 [] (by omega) (by (refine Le.mk (by kernel_rfl) ?_ ?_ <;> repeat' (first | exact True.intro | refine And.intro ?_ ?_ | exact Imp.refl _ | exact Imp.any _ | exact Imp.num (by first | omega | simp only [ints_len]) | exact rfl | exact Imp.bl (by simp)))) ?_
    intro t ht
    repeat' (conv => whnf
             first | refine ArOb.fits (by first | omega | (simp only [ints_len] at *; omega)) ?_ | refine LitOb.vec ?_ | refine MakeOb.vec ?_ | refine AllocOb.box ?_ | refine AsgOb.vec ?_ | refine AggOb.mk (by decide +kernel) ?_ | refine ArU.fits (by first | omega | (simp only [ints_len] at *; omega)) ?_ | refine ArB.fits (by first | omega | (simp only [ints_len] at *; omega)) ?_ | refine CutOb.split ?_ | refine Gh.mk [] ?_ | refine And.intro (And.intro (by (simp only [List.length_append, List.length_take, List.length_drop, List.length_cons, List.length_nil, ints_len, List.length_replicate, pks_len, Go.Cv.vals_len]; omega)) (by (simp only [List.length_append, List.length_take, List.length_drop, List.length_cons, List.length_nil, ints_len, List.length_replicate, pks_len, Go.Cv.vals_len]; omega))) ?_ | refine ⟨_, _, rfl, ints_get (by first | omega | (simp only [ints_len] at *; omega)), ?_⟩ | refine ⟨_, _, (Int.toNat_of_nonneg (by first | omega | (simp only [ints_len] at *; omega))).symm, ints_get (by first | omega | (simp only [ints_len] at *; omega)), ?_⟩ | fail)
    all_goals try (conv => whnf)
    refine CondOb.mk (fun hl3 => ?_) (fun hl3 => ?_)
    · have c1 := cBq t
      have c2 := cBg t
      have hle := hle t (by omega)
      generalize BQ t = x at *
      generalize sumA (befR t) G = y at *
      repeat' (conv => whnf
               first | (refine CondOb.mk (fun _ => ?_) (fun _ => ?_) <;> first | (exfalso; omega) | skip) | refine ArOb.fits (by first | omega | (simp only [ints_len] at *; omega)) ?_ | refine LitOb.vec ?_ | refine MakeOb.vec ?_ | refine AllocOb.box ?_ | refine AsgOb.vec ?_ | refine AggOb.mk (by decide +kernel) ?_ | refine ArU.fits (by first | omega | (simp only [ints_len] at *; omega)) ?_ | refine ArB.fits (by first | omega | (simp only [ints_len] at *; omega)) ?_ | refine CutOb.split ?_ | refine Gh.mk [] ?_ | refine And.intro (And.intro (by (simp only [List.length_append, List.length_take, List.length_drop, List.length_cons, List.length_nil, ints_len, List.length_replicate, pks_len, Go.Cv.vals_len]; omega)) (by (simp only [List.length_append, List.length_take, List.length_drop, List.length_cons, List.length_nil, ints_len, List.length_replicate, pks_len, Go.Cv.vals_len]; omega))) ?_ | refine ⟨_, _, rfl, ints_get (by first | omega | (simp only [ints_len] at *; omega)), ?_⟩ | refine ⟨_, _, (Int.toNat_of_nonneg (by first | omega | (simp only [ints_len] at *; omega))).symm, ints_get (by first | omega | (simp only [ints_len] at *; omega)), ?_⟩ | (refine CallOb.mk [] c1 rfl (ImpL.refl _) rfl rfl ?_; rintro _ _ ⟨rfl, rfl⟩) | (refine CallOb.mk [] c2 rfl (ImpL.refl _) rfl rfl ?_; rintro _ _ ⟨rfl, rfl⟩) | fail)
      all_goals try (conv => whnf)
      exact ⟨t + 1, [], by omega, by omega, by (refine Le.mk (by kernel_rfl) ?_ ?_ <;> repeat' (first | exact True.intro | refine And.intro ?_ ?_ | exact Imp.refl _ | exact Imp.any _ | exact Imp.num (by first | omega | simp only [ints_len]) | exact rfl | exact Imp.bl (by simp)))⟩
    · repeat' (conv => whnf
               first | (refine CondOb.mk (fun _ => ?_) (fun _ => ?_) <;> first | (exfalso; omega) | skip) | refine ArOb.fits (by first | omega | (simp only [ints_len] at *; omega)) ?_ | refine LitOb.vec ?_ | refine MakeOb.vec ?_ | refine AllocOb.box ?_ | refine AsgOb.vec ?_ | refine AggOb.mk (by decide +kernel) ?_ | refine ArU.fits (by first | omega | (simp only [ints_len] at *; omega)) ?_ | refine ArB.fits (by first | omega | (simp only [ints_len] at *; omega)) ?_ | refine CutOb.split ?_ | refine Gh.mk [] ?_ | refine And.intro (And.intro (by (simp only [List.length_append, List.length_take, List.length_drop, List.length_cons, List.length_nil, ints_len, List.length_replicate, pks_len, Go.Cv.vals_len]; omega)) (by (simp only [List.length_append, List.length_take, List.length_drop, List.length_cons, List.length_nil, ints_len, List.length_replicate, pks_len, Go.Cv.vals_len]; omega))) ?_ | refine ⟨_, _, rfl, ints_get (by first | omega | (simp only [ints_len] at *; omega)), ?_⟩ | refine ⟨_, _, (Int.toNat_of_nonneg (by first | omega | (simp only [ints_len] at *; omega))).symm, ints_get (by first | omega | (simp only [ints_len] at *; omega)), ?_⟩ | (refine CallOb.mk [] (awake14_ok) rfl (ImpL.refl _) rfl rfl ?_; rintro _ _ ⟨rfl, rfl⟩) | fail)
      all_goals try (conv => whnf)
      all_goals first
        | rfl
        | trace_state
end Go.Proofs.Ytabbnnfobjifiaa
