/-
  A text of the proofs of this seat: lemmas that the statements' proofs use; it states nothing of the program by itself beyond the contracts that its theorems bear. Conditions: those that stand in each theorem. Its short name: A7.
-/
import Derived.Test.YtlnpbgjoccipaaaA6
import Derived.Test.YtlnpbgjoccipaaaPl
set_option linter.unusedVariables false
set_option linter.unusedSimpArgs false
namespace Go.Proofs.Ytlnpbgjoccipaaa
open Go.Sx Go.Pk Go.Cv Go.St
set_option maxRecDepth 8000
set_option maxHeartbeats 2000000
--APPX pks_len, avs_len
theorem arN_mem {p : List Pk} {d : List Int} : ∀ {i : Nat} {a : Av}, a ∈ arN p d i → a.i < i ∧ d.getD a.i 0 ≠ -1 ∧ a.x = ⟨(p.getD a.i pk0).f, d.getD a.i 0 + 1, (p.getD a.i pk0).s⟩
  | 0, a, h => by simp [arN] at h
  | i + 1, a, h => by
    simp only [arN] at h
    split at h
    · have := arN_mem h; exact ⟨by omega, this.2⟩
    · split at h
      · rcases List.mem_append.1 h with h | h
        · have := arN_mem h; exact ⟨by omega, this.2⟩
        · rw [List.mem_singleton.1 h]; exact ⟨by simp, by assumption, rfl⟩
      · have := arN_mem h; exact ⟨by omega, this.2⟩
theorem fwd_vld {p : List Pk} (hv : Vld p) {d : List Int} (hd : OKd p d) : Vld (fwP (fwd p d)) := by
  refine vld_of ?_ ?_ ?_
  · have h1 := arN_len p d p.length
    have h2 := hv.l
    simp only [List.length_map, fwd, srt_len]; omega
  · intro x hx
    obtain ⟨a, ha, rfl⟩ := List.mem_map.1 hx
    obtain ⟨h1, h2, h3⟩ := arN_mem (srt_mem.1 ha)
    have h4 := hv.g a.i h1
    have h5 := hd.g a.i h1
    have h6 := a.h
    rw [h3] at h6 ⊢
    unfold bad at h4 ⊢
    dsimp only at h6 ⊢
    omega
  · exact srt_map (k := ptm) (g := fun a : Av => a.x) (srt_sorted _ _)
/- what arrives before a tick -/
def arS (p : List Pk) (d : List Int) (n : Int) : Nat → Int
  | 0 => 0
  | i + 1 => if 0 ≤ d.getD i 0 ∧ d.getD i 0 + 1 < n then arS p d n i + (p.getD i pk0).s else arS p d n i
theorem arS_eq {p : List Pk} (hv : Vld p) {d : List Int} (hd : OKd p d) (n : Int) : ∀ i, i ≤ p.length → sumA (fun a : Av => bef n a.x) (arN p d i) = arS p d n i
  | 0, _ => rfl
  | i + 1, hi => by
    have ih := arS_eq hv hd n i (by omega)
    have h4 := hv.g i (by omega)
    have h5 := hd.g i (by omega)
    unfold bad at h4
    simp only [arN, arS]
    by_cases h : d.getD i 0 = -1
    · rw [if_pos h, if_neg (by omega), ih]
    · rw [if_neg h, dif_pos (by omega), sumA_app, ih]
      simp only [sumA, bef]
      by_cases h2 : d.getD i 0 + 1 < n
      · rw [if_pos h2, if_pos ⟨by omega, h2⟩]; omega
      · rw [if_neg h2, if_neg (fun h3 => h2 h3.2)]; omega
theorem fwd_bys {p : List Pk} (hv : Vld p) {d : List Int} (hd : OKd p d) (n : Int) : bys (fwP (fwd p d)) (-1) n = arS p d n p.length := by
  rw [bys_all, sumA_map, fwd, sumA_srt, arS_eq hv hd n _ (Nat.le_refl _)]
theorem arS_bd {p : List Pk} (hv : Vld p) (d : List Int) (n : Int) : ∀ i, i ≤ p.length → 0 ≤ arS p d n i ∧ arS p d n i ≤ 1000000 * i
  | 0, _ => by simp [arS]
  | i + 1, hi => by
    have ih := arS_bd hv d n i (by omega)
    have := hv.sml _ (getD_memP (l := p) (i := i) (by omega))
    simp only [arS]; push_cast; split <;> omega
/- ticks that are drawn for the first packets -/
structure Drw (p : List Pk) (d : List Int) (i : Nat) : Prop where
  ll : d.length = i
  li : i ≤ p.length
  g : ∀ j, j < i → d.getD j 0 = -1 ∨ ((p.getD j pk0).t ≤ d.getD j 0 ∧ d.getD j 0 ≤ (p.getD j pk0).t + 60)
theorem Drw.snoc {p : List Pk} {d : List Int} {i : Nat} (h : Drw p d i) (hi : i < p.length) {v : Int} (hv : v = -1 ∨ ((p.getD i pk0).t ≤ v ∧ v ≤ (p.getD i pk0).t + 60)) : Drw p (d ++ [v]) (i + 1) := by
  have hl := h.ll
  refine ⟨by rw [List.length_append, hl]; rfl, hi, fun j hj => ?_⟩
  by_cases e : j = i
  · subst e
    have : (d ++ [v]).getD j 0 = v := by simp [List.getD_eq_getElem?_getD, hl]
    rw [this]; exact hv
  · have : (d ++ [v]).getD j 0 = d.getD j 0 := by
      rw [List.getD_eq_getElem?_getD, List.getElem?_append_left (by omega), ← List.getD_eq_getElem?_getD]
    rw [this]; exact h.g j (by omega)
theorem ints_app (l : List Int) (v : Int) : ints (l ++ [v]) = ints l ++ [[i64 v]] := by simp [ints]
theorem Arrives_ok (l : List Int) (hl : l.length ≤ 9223372036854775807) (t : Int) (htt : -9223372036854775808 ≤ t ∧ t ≤ 9223372036854775807) : Ctr Try.prog 7 [.psl 1 (ints l), i64 t] [] (fun r o => r = .bl true) := by
  refine fn_intro (E := env 0) tys_ok rfl rfl rfl Try.func7 (by kernel_rfl) rfl (by kernel_rfl) ?_
  have hL : (l.take 2000).length ≤ 2000 := by rw [List.length_take]; omega
  repeat' (conv => whnf
           first | (refine CondOb.mk (fun _ => ?_) (fun _ => ?_) <;> first | (exfalso; omega) | skip) | refine ArOb.fits (by first | omega | (simp only [ints_len] at *; omega)) ?_ | refine LitOb.vec ?_ | refine MakeOb.vec ?_ | refine AllocOb.box ?_ | refine AsgOb.vec ?_ | refine AggOb.mk (by decide +kernel) ?_ | refine ArU.fits (by first | omega | (simp only [ints_len] at *; omega)) ?_ | refine ArB.fits (by first | omega | (simp only [ints_len] at *; omega)) ?_ | refine CutOb.split ?_ | refine Gh.mk [] ?_ | refine And.intro (And.intro (by (simp only [List.length_append, List.length_take, List.length_drop, List.length_cons, List.length_nil, ints_len, List.length_replicate, pks_len, avs_len]; omega)) (by (simp only [List.length_append, List.length_take, List.length_drop, List.length_cons, List.length_nil, ints_len, List.length_replicate, pks_len, avs_len]; omega))) ?_ | refine ⟨_, _, rfl, ints_get (by first | omega | (simp only [ints_len] at *; omega)), ?_⟩ | refine ⟨_, _, (Int.toNat_of_nonneg (by first | omega | (simp only [ints_len] at *; omega))).symm, ints_get (by first | omega | (simp only [ints_len] at *; omega)), ?_⟩ | refine DrawOb.mk [] (.qs [0, 1, 2, 3, 4, 5, 6] (.l 7 [5, 3] (.qs [8] (.l 9 [] (.l 10 [] (.l 11 [] (.l 12 [] (.qs [13] .nil) .no) .no) .no) .no)) .no)) (by decide +kernel) ?_ | refine DrawOb.mk [] (.qs [0, 1, 2, 3, 4, 5, 6, 7, 8, 9, 10, 11, 12, 13, 14, 15, 16, 17, 18, 19, 20, 21, 22, 23, 24, 25, 26, 27, 28, 29, 30] .nil) (by decide +kernel) ?_ | (refine CallOb.mk [] (New_ok l hl) rfl (ImpL.refl _) rfl rfl ?_; rintro _ _ ⟨rfl, rfl⟩) | fail)
  all_goals try (conv => whnf)
  refine CallOb.mk [0] (Traffic_ok _ 0 hL (by omega) 12 (by omega) 3 20 (by omega) (by omega)) rfl (ImpL.refl _) rfl rfl ?_
  rintro _ _ ⟨⟨⟨p, tp⟩, k1⟩, ⟨⟨hP, hpl⟩, hk1⟩, rfl, rfl⟩
  dsimp only at hP hpl hk1 ⊢
  have hV := hP.vld (by decide) (by decide) (by omega)
  have hpp := pks_len p
  have hpt : ∀ j, j < p.length → 0 ≤ (p.getD j pk0).t ∧ (p.getD j pk0).t ≤ 100 := fun j hj => by
    have h1 := hP.b _ (getD_memP hj)
    have h2 := hP.t
    omega
  repeat' (conv => whnf
           first | (refine CondOb.mk (fun _ => ?_) (fun _ => ?_) <;> first | (exfalso; omega) | skip) | refine ArOb.fits (by first | omega | (simp only [ints_len] at *; omega)) ?_ | refine LitOb.vec ?_ | refine MakeOb.vec ?_ | refine AllocOb.box ?_ | refine AsgOb.vec ?_ | refine AggOb.mk (by decide +kernel) ?_ | refine ArU.fits (by first | omega | (simp only [ints_len] at *; omega)) ?_ | refine ArB.fits (by first | omega | (simp only [ints_len] at *; omega)) ?_ | refine CutOb.split ?_ | refine Gh.mk [] ?_ | refine And.intro (And.intro (by (simp only [List.length_append, List.length_take, List.length_drop, List.length_cons, List.length_nil, ints_len, List.length_replicate, pks_len, avs_len]; omega)) (by (simp only [List.length_append, List.length_take, List.length_drop, List.length_cons, List.length_nil, ints_len, List.length_replicate, pks_len, avs_len]; omega))) ?_ | refine ⟨_, _, rfl, ints_get (by first | omega | (simp only [ints_len] at *; omega)), ?_⟩ | refine ⟨_, _, (Int.toNat_of_nonneg (by first | omega | (simp only [ints_len] at *; omega))).symm, ints_get (by first | omega | (simp only [ints_len] at *; omega)), ?_⟩ | refine DrawOb.mk [] (.qs [0, 1, 2, 3, 4, 5, 6] (.l 7 [5, 3] (.qs [8] (.l 9 [] (.l 10 [] (.l 11 [] (.l 12 [] (.qs [13] .nil) .no) .no) .no) .no)) .no)) (by decide +kernel) ?_ | refine DrawOb.mk [] (.qs [0, 1, 2, 3, 4, 5, 6, 7, 8, 9, 10, 11, 12, 13, 14, 15, 16, 17, 18, 19, 20, 21, 22, 23, 24, 25, 26, 27, 28, 29, 30] .nil) (by decide +kernel) ?_ | fail)
  all_goals try (conv => whnf)
  refine LoopOb.mk (Y := List Int × Nat) (st := fun y => ⟨[(24, i64 y.1.length), (23, i64 (pks p).length), (22, .psl 3 (pks p)), (7, .vec 1), (6, .psl 3 (pks p)), (5, .ptr 0 0), (1, i64 t)], [src (l.take 2000) y.2, .vec 1 (ints y.1)]⟩)
    (inv := fun y => Drw p y.1 y.1.length ∧ y.2 ≤ 2000) (fun y => p.length - y.1.length) ([], k1) [0, 1] ⟨⟨rfl, by simp, fun j hj => by simp at hj⟩, hk1⟩ (by (refine Le.mk (by kernel_rfl) ?_ ?_ <;> repeat' (first | exact True.intro | refine And.intro ?_ ?_ | exact Imp.refl _ | exact Imp.any _ | exact Imp.num (by first | omega | simp only [ints_len]) | exact rfl | exact Imp.bl (by simp)))) ?_
  rintro ⟨d, k⟩ ⟨hD, hk⟩
  dsimp only at hD hk ⊢
  have hdl := ints_len d
  have hdi := hD.li
  repeat' (conv => whnf
           first | refine ArOb.fits (by first | omega | (simp only [ints_len] at *; omega)) ?_ | refine LitOb.vec ?_ | refine MakeOb.vec ?_ | refine AllocOb.box ?_ | refine AsgOb.vec ?_ | refine AggOb.mk (by decide +kernel) ?_ | refine ArU.fits (by first | omega | (simp only [ints_len] at *; omega)) ?_ | refine ArB.fits (by first | omega | (simp only [ints_len] at *; omega)) ?_ | refine CutOb.split ?_ | refine Gh.mk [] ?_ | refine And.intro (And.intro (by (simp only [List.length_append, List.length_take, List.length_drop, List.length_cons, List.length_nil, ints_len, List.length_replicate, pks_len, avs_len]; omega)) (by (simp only [List.length_append, List.length_take, List.length_drop, List.length_cons, List.length_nil, ints_len, List.length_replicate, pks_len, avs_len]; omega))) ?_ | refine ⟨_, _, rfl, ints_get (by first | omega | (simp only [ints_len] at *; omega)), ?_⟩ | refine ⟨_, _, (Int.toNat_of_nonneg (by first | omega | (simp only [ints_len] at *; omega))).symm, ints_get (by first | omega | (simp only [ints_len] at *; omega)), ?_⟩ | refine DrawOb.mk [] (.qs [0, 1, 2, 3, 4, 5, 6] (.l 7 [5, 3] (.qs [8] (.l 9 [] (.l 10 [] (.l 11 [] (.l 12 [] (.qs [13] .nil) .no) .no) .no) .no)) .no)) (by decide +kernel) ?_ | refine DrawOb.mk [] (.qs [0, 1, 2, 3, 4, 5, 6, 7, 8, 9, 10, 11, 12, 13, 14, 15, 16, 17, 18, 19, 20, 21, 22, 23, 24, 25, 26, 27, 28, 29, 30] .nil) (by decide +kernel) ?_ | fail)
  all_goals try (conv => whnf)
  refine CondOb.mk (fun hlt => ?_) (fun hlt => ?_)
  · have hil : d.length < p.length := by omega
    have hg := pks_get hil
    have hsn := fun v h => hD.snoc hil (v := v) h
    have hb := hpt _ hil
    clear hpt
    generalize p.getD d.length pk0 = x at *
    repeat' (conv => whnf
             first | refine LitOb.ful ?_ | refine ⟨d.length, _, rfl, hg, ?_⟩ | (refine CondOb.mk (fun _ => ?_) (fun _ => ?_) <;> first | (exfalso; omega) | skip) | refine ArOb.fits (by first | omega | (simp only [ints_len] at *; omega)) ?_ | refine LitOb.vec ?_ | refine MakeOb.vec ?_ | refine AllocOb.box ?_ | refine AsgOb.vec ?_ | refine AggOb.mk (by decide +kernel) ?_ | refine ArU.fits (by first | omega | (simp only [ints_len] at *; omega)) ?_ | refine ArB.fits (by first | omega | (simp only [ints_len] at *; omega)) ?_ | refine CutOb.split ?_ | refine Gh.mk [] ?_ | refine And.intro (And.intro (by (simp only [List.length_append, List.length_take, List.length_drop, List.length_cons, List.length_nil, ints_len, List.length_replicate, pks_len, avs_len]; omega)) (by (simp only [List.length_append, List.length_take, List.length_drop, List.length_cons, List.length_nil, ints_len, List.length_replicate, pks_len, avs_len]; omega))) ?_ | refine ⟨_, _, rfl, ints_get (by first | omega | (simp only [ints_len] at *; omega)), ?_⟩ | refine ⟨_, _, (Int.toNat_of_nonneg (by first | omega | (simp only [ints_len] at *; omega))).symm, ints_get (by first | omega | (simp only [ints_len] at *; omega)), ?_⟩ | refine DrawOb.mk [] (.qs [0, 1, 2, 3, 4, 5, 6] (.l 7 [5, 3] (.qs [8] (.l 9 [] (.l 10 [] (.l 11 [] (.l 12 [] (.qs [13] .nil) .no) .no) .no) .no)) .no)) (by decide +kernel) ?_ | refine DrawOb.mk [] (.qs [0, 1, 2, 3, 4, 5, 6, 7, 8, 9, 10, 11, 12, 13, 14, 15, 16, 17, 18, 19, 20, 21, 22, 23, 24, 25, 26, 27, 28, 29, 30] .nil) (by decide +kernel) ?_ | fail)
    all_goals try (conv => whnf)
    refine CallOb.mk [0] (N_ok _ k hL hk 9 (by omega) (by omega)) rfl (ImpL.refl _) rfl rfl ?_
    rintro _ _ ⟨⟨w, k2⟩, ⟨w1, w2, hk2⟩, rfl, rfl⟩
    dsimp only at w1 w2 hk2 ⊢
    repeat' (conv => whnf
             first | refine LitOb.ful ?_ | (refine CondOb.mk (fun _ => ?_) (fun _ => ?_) <;> first | (exfalso; omega) | skip) | refine ArOb.fits (by first | omega | (simp only [ints_len] at *; omega)) ?_ | refine LitOb.vec ?_ | refine MakeOb.vec ?_ | refine AllocOb.box ?_ | refine AsgOb.vec ?_ | refine AggOb.mk (by decide +kernel) ?_ | refine ArU.fits (by first | omega | (simp only [ints_len] at *; omega)) ?_ | refine ArB.fits (by first | omega | (simp only [ints_len] at *; omega)) ?_ | refine CutOb.split ?_ | refine Gh.mk [] ?_ | refine And.intro (And.intro (by (simp only [List.length_append, List.length_take, List.length_drop, List.length_cons, List.length_nil, ints_len, List.length_replicate, pks_len, avs_len]; omega)) (by (simp only [List.length_append, List.length_take, List.length_drop, List.length_cons, List.length_nil, ints_len, List.length_replicate, pks_len, avs_len]; omega))) ?_ | refine ⟨_, _, rfl, ints_get (by first | omega | (simp only [ints_len] at *; omega)), ?_⟩ | refine ⟨_, _, (Int.toNat_of_nonneg (by first | omega | (simp only [ints_len] at *; omega))).symm, ints_get (by first | omega | (simp only [ints_len] at *; omega)), ?_⟩ | refine DrawOb.mk [] (.qs [0, 1, 2, 3, 4, 5, 6] (.l 7 [5, 3] (.qs [8] (.l 9 [] (.l 10 [] (.l 11 [] (.l 12 [] (.qs [13] .nil) .no) .no) .no) .no)) .no)) (by decide +kernel) ?_ | refine DrawOb.mk [] (.qs [0, 1, 2, 3, 4, 5, 6, 7, 8, 9, 10, 11, 12, 13, 14, 15, 16, 17, 18, 19, 20, 21, 22, 23, 24, 25, 26, 27, 28, 29, 30] .nil) (by decide +kernel) ?_ | fail)
    all_goals try (conv => whnf)
    refine CallOb.mk [0] (Pick_ok _ k2 hL hk2 [x.t, x.t + w, -1] (by simp) (by simp)) rfl ⟨Imp.refl _, Imp.fulp rfl, trivial⟩ rfl rfl ?_
    rintro _ _ ⟨⟨v, k3⟩, ⟨hv, hk3⟩, rfl, rfl⟩
    dsimp only at hv hk3 ⊢
    have hv2 := hsn v (by simp only [List.mem_cons, List.not_mem_nil, or_false] at hv; omega)
    repeat' (conv => whnf
             first | refine LitOb.ful ?_ | (refine CondOb.mk (fun _ => ?_) (fun _ => ?_) <;> first | (exfalso; omega) | skip) | refine ArOb.fits (by first | omega | (simp only [ints_len] at *; omega)) ?_ | refine LitOb.vec ?_ | refine MakeOb.vec ?_ | refine AllocOb.box ?_ | refine AsgOb.vec ?_ | refine AggOb.mk (by decide +kernel) ?_ | refine ArU.fits (by first | omega | (simp only [ints_len] at *; omega)) ?_ | refine ArB.fits (by first | omega | (simp only [ints_len] at *; omega)) ?_ | refine CutOb.split ?_ | refine Gh.mk [] ?_ | refine And.intro (And.intro (by (simp only [List.length_append, List.length_take, List.length_drop, List.length_cons, List.length_nil, ints_len, List.length_replicate, pks_len, avs_len]; omega)) (by (simp only [List.length_append, List.length_take, List.length_drop, List.length_cons, List.length_nil, ints_len, List.length_replicate, pks_len, avs_len]; omega))) ?_ | refine ⟨_, _, rfl, ints_get (by first | omega | (simp only [ints_len] at *; omega)), ?_⟩ | refine ⟨_, _, (Int.toNat_of_nonneg (by first | omega | (simp only [ints_len] at *; omega))).symm, ints_get (by first | omega | (simp only [ints_len] at *; omega)), ?_⟩ | refine DrawOb.mk [] (.qs [0, 1, 2, 3, 4, 5, 6] (.l 7 [5, 3] (.qs [8] (.l 9 [] (.l 10 [] (.l 11 [] (.l 12 [] (.qs [13] .nil) .no) .no) .no) .no)) .no)) (by decide +kernel) ?_ | refine DrawOb.mk [] (.qs [0, 1, 2, 3, 4, 5, 6, 7, 8, 9, 10, 11, 12, 13, 14, 15, 16, 17, 18, 19, 20, 21, 22, 23, 24, 25, 26, 27, 28, 29, 30] .nil) (by decide +kernel) ?_ | fail)
    all_goals try (conv => whnf)
    exact ⟨(d ++ [v], k3), [0, 3], ⟨by dsimp only; rw [List.length_append, List.length_singleton]; exact hv2, hk3⟩, by dsimp only; rw [List.length_append, List.length_singleton]; omega, by dsimp only; rw [List.length_append, List.length_singleton, ints_app]; (refine Le.mk (by kernel_rfl) ?_ ?_ <;> repeat' (first | exact True.intro | refine And.intro ?_ ?_ | exact Imp.refl _ | exact Imp.any _ | exact Imp.num (by first | omega | simp only [ints_len]) | exact rfl | exact Imp.bl (by simp)))⟩
  · have e : d.length = p.length := by omega
    have hO : OKd p d := ⟨e, fun i hi => by
      have h1 := hD.g i (by omega)
      have h2 := hpt i hi
      omega⟩
    have cF := Forward_ok p hV (by omega) d hO
    have hFV := fwd_vld hV hO
    have cV := Validate_ok (fwP (fwd p d)) (by have := hFV.l; omega)
    rw [vld_zero.2 hFV] at cV
    have cM := Mod_ok t 120 (by omega) (by omega)
    have hm := md_bd (x := t) (n := 120) (by omega)
    generalize md t 120 = n at *
    have cB := Bytes_ok (fwP (fwd p d)) (by have := hFV.l; omega) hFV.sml (-1) n
    rw [fwd_bys hV hO] at cB
    have hmem : ∀ k (hk : k < (fwd p d).length), ((fwd p d)[k]).i < p.length ∧ ((fwd p d)[k]).x = ⟨(p.getD ((fwd p d)[k]).i pk0).f, d.getD ((fwd p d)[k]).i 0 + 1, (p.getD ((fwd p d)[k]).i pk0).s⟩ := fun k hk => by
      have := arN_mem (srt_mem.1 (List.getElem_mem hk))
      exact ⟨this.1, this.2.2⟩
    generalize fwd p d = F at *
    have hFl : (pks (fwP F)).length = F.length := by simp
    have hIl : (ints (fwI F)).length = F.length := by simp
    have hFl60 : F.length ≤ 60 := by have := hFV.l; simpa using this
    repeat' (conv => whnf
             first | (refine CondOb.mk (fun _ => ?_) (fun _ => ?_) <;> first | (exfalso; omega) | skip) | refine ArOb.fits (by first | omega | (simp only [ints_len] at *; omega)) ?_ | refine LitOb.vec ?_ | refine MakeOb.vec ?_ | refine AllocOb.box ?_ | refine AsgOb.vec ?_ | refine AggOb.mk (by decide +kernel) ?_ | refine ArU.fits (by first | omega | (simp only [ints_len] at *; omega)) ?_ | refine ArB.fits (by first | omega | (simp only [ints_len] at *; omega)) ?_ | refine CutOb.split ?_ | refine And.intro (And.intro (by (simp only [List.length_append, List.length_take, List.length_drop, List.length_cons, List.length_nil, ints_len, List.length_replicate, pks_len, avs_len]; omega)) (by (simp only [List.length_append, List.length_take, List.length_drop, List.length_cons, List.length_nil, ints_len, List.length_replicate, pks_len, avs_len]; omega))) ?_ | refine ⟨_, _, rfl, ints_get (by first | omega | (simp only [ints_len] at *; omega)), ?_⟩ | refine ⟨_, _, (Int.toNat_of_nonneg (by first | omega | (simp only [ints_len] at *; omega))).symm, ints_get (by first | omega | (simp only [ints_len] at *; omega)), ?_⟩ | refine DrawOb.mk [] (.qs [0, 1, 2, 3, 4, 5, 6] (.l 7 [5, 3] (.qs [8] (.l 9 [] (.l 10 [] (.l 11 [] (.l 12 [] (.qs [13] .nil) .no) .no) .no) .no)) .no)) (by decide +kernel) ?_ | refine DrawOb.mk [] (.qs [0, 1, 2, 3, 4, 5, 6, 7, 8, 9, 10, 11, 12, 13, 14, 15, 16, 17, 18, 19, 20, 21, 22, 23, 24, 25, 26, 27, 28, 29, 30] .nil) (by decide +kernel) ?_ | fail)
    all_goals try (conv => whnf)
    refine .mk [.fz 1] ?_
    refine CallOb.mk [] cF rfl (ImpL.refl _) rfl rfl ?_
    rintro _ _ ⟨rfl, rfl⟩
    repeat' (conv => whnf
             first | (refine CondOb.mk (fun _ => ?_) (fun _ => ?_) <;> first | (exfalso; omega) | skip) | refine ArOb.fits (by first | omega | (simp only [ints_len] at *; omega)) ?_ | refine LitOb.vec ?_ | refine MakeOb.vec ?_ | refine AllocOb.box ?_ | refine AsgOb.vec ?_ | refine AggOb.mk (by decide +kernel) ?_ | refine ArU.fits (by first | omega | (simp only [ints_len] at *; omega)) ?_ | refine ArB.fits (by first | omega | (simp only [ints_len] at *; omega)) ?_ | refine CutOb.split ?_ | refine Gh.mk [] ?_ | refine And.intro (And.intro (by (simp only [List.length_append, List.length_take, List.length_drop, List.length_cons, List.length_nil, ints_len, List.length_replicate, pks_len, avs_len]; omega)) (by (simp only [List.length_append, List.length_take, List.length_drop, List.length_cons, List.length_nil, ints_len, List.length_replicate, pks_len, avs_len]; omega))) ?_ | refine ⟨_, _, rfl, ints_get (by first | omega | (simp only [ints_len] at *; omega)), ?_⟩ | refine ⟨_, _, (Int.toNat_of_nonneg (by first | omega | (simp only [ints_len] at *; omega))).symm, ints_get (by first | omega | (simp only [ints_len] at *; omega)), ?_⟩ | refine DrawOb.mk [] (.qs [0, 1, 2, 3, 4, 5, 6] (.l 7 [5, 3] (.qs [8] (.l 9 [] (.l 10 [] (.l 11 [] (.l 12 [] (.qs [13] .nil) .no) .no) .no) .no)) .no)) (by decide +kernel) ?_ | refine DrawOb.mk [] (.qs [0, 1, 2, 3, 4, 5, 6, 7, 8, 9, 10, 11, 12, 13, 14, 15, 16, 17, 18, 19, 20, 21, 22, 23, 24, 25, 26, 27, 28, 29, 30] .nil) (by decide +kernel) ?_ | (refine CallOb.mk [] cV rfl (ImpL.refl _) rfl rfl ?_; rintro _ _ ⟨rfl, rfl⟩) | (refine CallOb.mk [] cM rfl (ImpL.refl _) rfl rfl ?_; rintro _ _ ⟨rfl, rfl⟩) | fail)
    all_goals try (conv => whnf)
    refine LoopOb.mk (Y := Nat) (st := fun i => ⟨[(67, i64 i), (66, i64 (pks p).length), (14, i64 (arS p d n i)), (13, i64 n), (11, .psl 1 (ints (fwI F))), (10, .psl 3 (pks (fwP F))), (7, .psl 1 (ints d)), (6, .psl 3 (pks p))], [src (l.take 2000) k]⟩)
      (inv := fun i => i ≤ p.length) (fun i => p.length - i) 0 [0] (by omega) (by (refine Le.mk (by kernel_rfl) ?_ ?_ <;> repeat' (first | exact True.intro | refine And.intro ?_ ?_ | exact Imp.refl _ | exact Imp.any _ | exact Imp.num (by first | omega | simp only [ints_len]) | exact rfl | exact Imp.bl (by simp)))) ?_
    intro i hi
    have hbd := arS_bd hV d n i hi
    repeat' (conv => whnf
             first | refine ArOb.fits (by first | omega | (simp only [ints_len] at *; omega)) ?_ | refine LitOb.vec ?_ | refine MakeOb.vec ?_ | refine AllocOb.box ?_ | refine AsgOb.vec ?_ | refine AggOb.mk (by decide +kernel) ?_ | refine ArU.fits (by first | omega | (simp only [ints_len] at *; omega)) ?_ | refine ArB.fits (by first | omega | (simp only [ints_len] at *; omega)) ?_ | refine CutOb.split ?_ | refine Gh.mk [] ?_ | refine And.intro (And.intro (by (simp only [List.length_append, List.length_take, List.length_drop, List.length_cons, List.length_nil, ints_len, List.length_replicate, pks_len, avs_len]; omega)) (by (simp only [List.length_append, List.length_take, List.length_drop, List.length_cons, List.length_nil, ints_len, List.length_replicate, pks_len, avs_len]; omega))) ?_ | refine ⟨_, _, rfl, ints_get (by first | omega | (simp only [ints_len] at *; omega)), ?_⟩ | refine ⟨_, _, (Int.toNat_of_nonneg (by first | omega | (simp only [ints_len] at *; omega))).symm, ints_get (by first | omega | (simp only [ints_len] at *; omega)), ?_⟩ | refine DrawOb.mk [] (.qs [0, 1, 2, 3, 4, 5, 6] (.l 7 [5, 3] (.qs [8] (.l 9 [] (.l 10 [] (.l 11 [] (.l 12 [] (.qs [13] .nil) .no) .no) .no) .no)) .no)) (by decide +kernel) ?_ | refine DrawOb.mk [] (.qs [0, 1, 2, 3, 4, 5, 6, 7, 8, 9, 10, 11, 12, 13, 14, 15, 16, 17, 18, 19, 20, 21, 22, 23, 24, 25, 26, 27, 28, 29, 30] .nil) (by decide +kernel) ?_ | fail)
    all_goals try (conv => whnf)
    refine CondOb.mk (fun hlt => ?_) (fun hlt => ?_)
    · have hil : i < p.length := by omega
      have hg1 := pks_get hil
      have hg2 := ints_get (l := d) (j := i) (by omega)
      have hb := hV.sml _ (getD_memP hil)
      have hO1 := hO.g i hil
      have hO2 := hpt i hil
      have e1 : 0 ≤ d.getD i 0 ∧ d.getD i 0 + 1 < n → arS p d n (i + 1) = arS p d n i + (p.getD i pk0).s := fun h => by simp only [arS]; rw [if_pos h]
      have e2 : ¬(0 ≤ d.getD i 0 ∧ d.getD i 0 + 1 < n) → arS p d n (i + 1) = arS p d n i := fun h => by simp only [arS]; rw [if_neg h]
      have hB : arS p d n i ≤ 1000000000000 := by omega
      generalize d.getD i 0 = v at *
      generalize p.getD i pk0 = x at *
      repeat' (conv => whnf
               first | refine ⟨i, _, rfl, hg2, ?_⟩ | refine ⟨i, _, rfl, hg1, ?_⟩ | (refine CondOb.mk (fun _ => ?_) (fun _ => ?_) <;> first | (exfalso; omega) | skip) | refine ArOb.fits (by first | omega | (simp only [ints_len] at *; omega)) ?_ | refine LitOb.vec ?_ | refine MakeOb.vec ?_ | refine AllocOb.box ?_ | refine AsgOb.vec ?_ | refine AggOb.mk (by decide +kernel) ?_ | refine ArU.fits (by first | omega | (simp only [ints_len] at *; omega)) ?_ | refine ArB.fits (by first | omega | (simp only [ints_len] at *; omega)) ?_ | refine CutOb.split ?_ | refine Gh.mk [] ?_ | refine And.intro (And.intro (by (simp only [List.length_append, List.length_take, List.length_drop, List.length_cons, List.length_nil, ints_len, List.length_replicate, pks_len, avs_len]; omega)) (by (simp only [List.length_append, List.length_take, List.length_drop, List.length_cons, List.length_nil, ints_len, List.length_replicate, pks_len, avs_len]; omega))) ?_ | refine ⟨_, _, rfl, ints_get (by first | omega | (simp only [ints_len] at *; omega)), ?_⟩ | refine ⟨_, _, (Int.toNat_of_nonneg (by first | omega | (simp only [ints_len] at *; omega))).symm, ints_get (by first | omega | (simp only [ints_len] at *; omega)), ?_⟩ | refine DrawOb.mk [] (.qs [0, 1, 2, 3, 4, 5, 6] (.l 7 [5, 3] (.qs [8] (.l 9 [] (.l 10 [] (.l 11 [] (.l 12 [] (.qs [13] .nil) .no) .no) .no) .no)) .no)) (by decide +kernel) ?_ | refine DrawOb.mk [] (.qs [0, 1, 2, 3, 4, 5, 6, 7, 8, 9, 10, 11, 12, 13, 14, 15, 16, 17, 18, 19, 20, 21, 22, 23, 24, 25, 26, 27, 28, 29, 30] .nil) (by decide +kernel) ?_ | fail)
      all_goals try (conv => whnf)
      all_goals first
        | exact ⟨i + 1, [0], by omega, by omega, by rw [e1 (by omega)]; (refine Le.mk (by kernel_rfl) ?_ ?_ <;> repeat' (first | exact True.intro | refine And.intro ?_ ?_ | exact Imp.refl _ | exact Imp.any _ | exact Imp.num (by first | omega | simp only [ints_len]) | exact rfl | exact Imp.bl (by simp)))⟩
        | exact ⟨i + 1, [0], by omega, by omega, by rw [e2 (by omega)]; (refine Le.mk (by kernel_rfl) ?_ ?_ <;> repeat' (first | exact True.intro | refine And.intro ?_ ?_ | exact Imp.refl _ | exact Imp.any _ | exact Imp.num (by first | omega | simp only [ints_len]) | exact rfl | exact Imp.bl (by simp)))⟩
        | trace_state
    · have e : i = p.length := by omega
      subst e
      generalize arS p d n p.length = S at *
      repeat' (conv => whnf
               first | (refine CondOb.mk (fun _ => ?_) (fun _ => ?_) <;> first | (exfalso; omega) | skip) | refine ArOb.fits (by first | omega | (simp only [ints_len] at *; omega)) ?_ | refine LitOb.vec ?_ | refine MakeOb.vec ?_ | refine AllocOb.box ?_ | refine AsgOb.vec ?_ | refine AggOb.mk (by decide +kernel) ?_ | refine ArU.fits (by first | omega | (simp only [ints_len] at *; omega)) ?_ | refine ArB.fits (by first | omega | (simp only [ints_len] at *; omega)) ?_ | refine CutOb.split ?_ | refine Gh.mk [] ?_ | refine And.intro (And.intro (by (simp only [List.length_append, List.length_take, List.length_drop, List.length_cons, List.length_nil, ints_len, List.length_replicate, pks_len, avs_len]; omega)) (by (simp only [List.length_append, List.length_take, List.length_drop, List.length_cons, List.length_nil, ints_len, List.length_replicate, pks_len, avs_len]; omega))) ?_ | refine ⟨_, _, rfl, ints_get (by first | omega | (simp only [ints_len] at *; omega)), ?_⟩ | refine ⟨_, _, (Int.toNat_of_nonneg (by first | omega | (simp only [ints_len] at *; omega))).symm, ints_get (by first | omega | (simp only [ints_len] at *; omega)), ?_⟩ | refine DrawOb.mk [] (.qs [0, 1, 2, 3, 4, 5, 6] (.l 7 [5, 3] (.qs [8] (.l 9 [] (.l 10 [] (.l 11 [] (.l 12 [] (.qs [13] .nil) .no) .no) .no) .no)) .no)) (by decide +kernel) ?_ | refine DrawOb.mk [] (.qs [0, 1, 2, 3, 4, 5, 6, 7, 8, 9, 10, 11, 12, 13, 14, 15, 16, 17, 18, 19, 20, 21, 22, 23, 24, 25, 26, 27, 28, 29, 30] .nil) (by decide +kernel) ?_ | fail)
      all_goals try (conv => whnf)
      refine LoopOb.mk (Y := Nat) (st := fun i => ⟨[(94, i64 i), (93, i64 (ints (fwI F)).length), (92, .psl 1 (ints (fwI F))), (14, i64 S), (13, i64 n), (10, .psl 3 (pks (fwP F))), (7, .psl 1 (ints d)), (6, .psl 3 (pks p))], [src (l.take 2000) k]⟩)
        (inv := fun i => i ≤ F.length) (fun i => F.length - i) 0 [0] (by omega) (by (refine Le.mk (by kernel_rfl) ?_ ?_ <;> repeat' (first | exact True.intro | refine And.intro ?_ ?_ | exact Imp.refl _ | exact Imp.any _ | exact Imp.num (by first | omega | simp only [ints_len]) | exact rfl | exact Imp.bl (by simp)))) ?_
      clear hbd hi hlt
      intro i hi
      repeat' (conv => whnf
               first | refine ArOb.fits (by first | omega | (simp only [ints_len] at *; omega)) ?_ | refine LitOb.vec ?_ | refine MakeOb.vec ?_ | refine AllocOb.box ?_ | refine AsgOb.vec ?_ | refine AggOb.mk (by decide +kernel) ?_ | refine ArU.fits (by first | omega | (simp only [ints_len] at *; omega)) ?_ | refine ArB.fits (by first | omega | (simp only [ints_len] at *; omega)) ?_ | refine CutOb.split ?_ | refine Gh.mk [] ?_ | refine And.intro (And.intro (by (simp only [List.length_append, List.length_take, List.length_drop, List.length_cons, List.length_nil, ints_len, List.length_replicate, pks_len, avs_len]; omega)) (by (simp only [List.length_append, List.length_take, List.length_drop, List.length_cons, List.length_nil, ints_len, List.length_replicate, pks_len, avs_len]; omega))) ?_ | refine ⟨_, _, rfl, ints_get (by first | omega | (simp only [ints_len] at *; omega)), ?_⟩ | refine ⟨_, _, (Int.toNat_of_nonneg (by first | omega | (simp only [ints_len] at *; omega))).symm, ints_get (by first | omega | (simp only [ints_len] at *; omega)), ?_⟩ | refine DrawOb.mk [] (.qs [0, 1, 2, 3, 4, 5, 6] (.l 7 [5, 3] (.qs [8] (.l 9 [] (.l 10 [] (.l 11 [] (.l 12 [] (.qs [13] .nil) .no) .no) .no) .no)) .no)) (by decide +kernel) ?_ | refine DrawOb.mk [] (.qs [0, 1, 2, 3, 4, 5, 6, 7, 8, 9, 10, 11, 12, 13, 14, 15, 16, 17, 18, 19, 20, 21, 22, 23, 24, 25, 26, 27, 28, 29, 30] .nil) (by decide +kernel) ?_ | fail)
      all_goals try (conv => whnf)
      refine CondOb.mk (fun hlt => ?_) (fun hlt => ?_)
      · have hil : i < F.length := by omega
        obtain ⟨m1, m2⟩ := hmem i hil
        have g1 : (ints (fwI F))[i]? = some [i64 (F[i]).i] := by
          show ((F.map fun a : Av => (a.i : Int)).map fun n => [i64 n])[i]? = _
          rw [List.getElem?_map, List.getElem?_map, List.getElem?_eq_getElem hil]; rfl
        have g2 : (pks (fwP F))[i]? = some (pkw (F[i]).x) := by
          show ((F.map fun a : Av => a.x).map pkw)[i]? = _
          rw [List.getElem?_map, List.getElem?_map, List.getElem?_eq_getElem hil]; rfl
        rw [m2] at g2
        clear hmem
        generalize (F[i]).i = j at *
        have g3 := pks_get m1
        have g4 := ints_get (l := d) (j := j) (by omega)
        have hO1 := hO.g j m1
        have hO2 := hpt j m1
        clear m2
        generalize d.getD j 0 = v at *
        generalize p.getD j pk0 = x at *
        repeat' (conv => whnf
                 first | refine ⟨j, _, rfl, g4, ?_⟩ | refine ⟨j, _, rfl, g3, ?_⟩ | refine ⟨i, _, rfl, g2, ?_⟩ | refine ⟨i, _, rfl, g1, ?_⟩ | (refine CondOb.mk (fun _ => ?_) (fun _ => ?_) <;> first | (exfalso; omega) | skip) | refine ArOb.fits (by first | omega | (simp only [ints_len] at *; omega)) ?_ | refine LitOb.vec ?_ | refine MakeOb.vec ?_ | refine AllocOb.box ?_ | refine AsgOb.vec ?_ | refine AggOb.mk (by decide +kernel) ?_ | refine ArU.fits (by first | omega | (simp only [ints_len] at *; omega)) ?_ | refine ArB.fits (by first | omega | (simp only [ints_len] at *; omega)) ?_ | refine CutOb.split ?_ | refine Gh.mk [] ?_ | refine And.intro (And.intro (by (simp only [List.length_append, List.length_take, List.length_drop, List.length_cons, List.length_nil, ints_len, List.length_replicate, pks_len, avs_len]; omega)) (by (simp only [List.length_append, List.length_take, List.length_drop, List.length_cons, List.length_nil, ints_len, List.length_replicate, pks_len, avs_len]; omega))) ?_ | refine ⟨_, _, rfl, ints_get (by first | omega | (simp only [ints_len] at *; omega)), ?_⟩ | refine ⟨_, _, (Int.toNat_of_nonneg (by first | omega | (simp only [ints_len] at *; omega))).symm, ints_get (by first | omega | (simp only [ints_len] at *; omega)), ?_⟩ | refine DrawOb.mk [] (.qs [0, 1, 2, 3, 4, 5, 6] (.l 7 [5, 3] (.qs [8] (.l 9 [] (.l 10 [] (.l 11 [] (.l 12 [] (.qs [13] .nil) .no) .no) .no) .no)) .no)) (by decide +kernel) ?_ | refine DrawOb.mk [] (.qs [0, 1, 2, 3, 4, 5, 6, 7, 8, 9, 10, 11, 12, 13, 14, 15, 16, 17, 18, 19, 20, 21, 22, 23, 24, 25, 26, 27, 28, 29, 30] .nil) (by decide +kernel) ?_ | fail)
        all_goals try (conv => whnf)
        all_goals first
          | exact ⟨i + 1, [0], by omega, by omega, by (refine Le.mk (by kernel_rfl) ?_ ?_ <;> repeat' (first | exact True.intro | refine And.intro ?_ ?_ | exact Imp.refl _ | exact Imp.any _ | exact Imp.num (by first | omega | simp only [ints_len]) | exact rfl | exact Imp.bl (by simp)))⟩
          | (exfalso; rename_i h; apply h; simp [conj]; done)
          | trace_state
      · repeat' (conv => whnf
                 first | (refine CondOb.mk (fun _ => ?_) (fun _ => ?_) <;> first | (exfalso; omega) | skip) | refine ArOb.fits (by first | omega | (simp only [ints_len] at *; omega)) ?_ | refine LitOb.vec ?_ | refine MakeOb.vec ?_ | refine AllocOb.box ?_ | refine AsgOb.vec ?_ | refine AggOb.mk (by decide +kernel) ?_ | refine ArU.fits (by first | omega | (simp only [ints_len] at *; omega)) ?_ | refine ArB.fits (by first | omega | (simp only [ints_len] at *; omega)) ?_ | refine CutOb.split ?_ | refine Gh.mk [] ?_ | refine And.intro (And.intro (by (simp only [List.length_append, List.length_take, List.length_drop, List.length_cons, List.length_nil, ints_len, List.length_replicate, pks_len, avs_len]; omega)) (by (simp only [List.length_append, List.length_take, List.length_drop, List.length_cons, List.length_nil, ints_len, List.length_replicate, pks_len, avs_len]; omega))) ?_ | refine ⟨_, _, rfl, ints_get (by first | omega | (simp only [ints_len] at *; omega)), ?_⟩ | refine ⟨_, _, (Int.toNat_of_nonneg (by first | omega | (simp only [ints_len] at *; omega))).symm, ints_get (by first | omega | (simp only [ints_len] at *; omega)), ?_⟩ | refine DrawOb.mk [] (.qs [0, 1, 2, 3, 4, 5, 6] (.l 7 [5, 3] (.qs [8] (.l 9 [] (.l 10 [] (.l 11 [] (.l 12 [] (.qs [13] .nil) .no) .no) .no) .no)) .no)) (by decide +kernel) ?_ | refine DrawOb.mk [] (.qs [0, 1, 2, 3, 4, 5, 6, 7, 8, 9, 10, 11, 12, 13, 14, 15, 16, 17, 18, 19, 20, 21, 22, 23, 24, 25, 26, 27, 28, 29, 30] .nil) (by decide +kernel) ?_ | (refine CallOb.mk [] cB rfl (ImpL.refl _) rfl rfl ?_; rintro _ _ ⟨rfl, rfl⟩) | (refine CallOb.mk [] (awake15_ok) rfl (ImpL.refl _) rfl rfl ?_; rintro _ _ ⟨rfl, rfl⟩) | fail)
        all_goals try (conv => whnf)
        all_goals first
          | rfl
          | (exfalso; omega)
          | trace_state
end Go.Proofs.Ytlnpbgjoccipaaa
