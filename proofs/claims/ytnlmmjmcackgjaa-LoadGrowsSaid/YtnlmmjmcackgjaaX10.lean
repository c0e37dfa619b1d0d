/-
  A text of the proofs of this seat: lemmas that the statements' proofs use; it states nothing of the program by itself beyond the contracts that its theorems bear. Conditions: those that stand in each theorem. Its short name: X10.
-/
import Derived.Test.YtnlmmjmcackgjaaX6
import Derived.Test.YtnlmmjmcackgjaaX8
import Derived.Test.YtnlmmjmcackgjaaX9
import Derived.Test.YtnlmmjmcackgjaaNw
import Derived.Test.YtnlmmjmcackgjaaNv
import Derived.Test.YtnlmmjmcackgjaaPl
set_option linter.unusedVariables false
set_option linter.unusedSimpArgs false
namespace Go.Proofs.Ytnlmmjmcackgjaa
open Go.Sx Go.Np Go.Cv Go.Tp Go.Fq
set_option maxRecDepth 4000
set_option maxHeartbeats 2000000
theorem DelP.shape {n : Nt} {d : List (List Int)} (h : DelP n n.ln.length d) (hc : chkN n = 0) : ShapeP n d := ⟨hc, h.l, fun i hi => h.r i (by have := h.l; omega), fun i hi j hj => by
  have := h.b i (by have := h.l; omega) _ (Go.Np.getD_in (d := 0) hj)
  omega⟩
/- greater delays -/
def bgd (m : Int) (d : List (List Int)) : List (List Int) := d.map fun r => r.map (gdl m)
theorem map_take_snoc {α β : Type} (f : α → β) {l : List α} {d : α} {i : Nat} (h : i < l.length) : (l.take (i + 1)).map f = (l.take i).map f ++ [f (l.getD i d)] := by
  rw [List.take_add_one, List.map_append, List.getElem?_eq_getElem h]
  simp [List.getD_eq_getElem?_getD, h]
theorem bgd_gr {n : Nt} {d : List (List Int)} (hS : ShapeP n d) (hb : ∀ i, i < d.length → ∀ j, j < (d.getD i []).length → (d.getD i []).getD j 0 ≤ 14) {m : Int} (m0 : 0 ≤ m) : GrD n m d (bgd m d) := by
  have gg : ∀ i, i < d.length → (bgd m d).getD i [] = (d.getD i []).map (gdl m) := fun i hi => getD_mapF hi
  have gj : ∀ i, i < d.length → ∀ j, j < (d.getD i []).length → ((bgd m d).getD i []).getD j 0 = gdl m ((d.getD i []).getD j 0) := fun i hi j hj => by
    rw [gg i hi]; exact getD_mapF hj
  have hl : (bgd m d).length = d.length := List.length_map _
  refine ⟨m0, hS, ⟨hS.c, by rw [hl]; exact hS.l, fun i hi => ?_, fun i hi j hj => ?_⟩, gj⟩
  · rw [gg i (by omega), List.length_map]; exact hS.r i (by omega)
  · rw [hl] at hi
    have hj' : j < (d.getD i []).length := by rw [gg i hi, List.length_map] at hj; exact hj
    rw [gj i hi j hj']
    have := hS.b i hi j hj'
    unfold gdl; split <;> omega
theorem dv12 : ∀ p : Nat, p < 13 → 1 ≤ p → ((p : Nat) : Int) ∣ 27720 ∧ (0 : Int) ≤ 27720 / ((p : Nat) : Int) ∧ 27720 / ((p : Nat) : Int) ≤ 27720 := by decide +kernel
theorem lAtN {n : Nt} (hn : NL n) {d : List (List Int)} (hd : DL d) (hS : ShapeP n d) {i h : Nat} (hi : i < n.fl.length) (hh : h < (n.fl.getD i fl0).rt.length) (hb : bef d (n.fl.getD i fl0) h = none) :
    Ctr Try.prog 35 [ntv n, .psl 1 (dls d), i64 i, i64 h] [] (fun r o => o = [] ∧ r = .tup [crv [] 0 0, i64 5]) :=
  (lAt_ok n hn d hd i h).mono fun r o ⟨x, h1, h2, h3⟩ => by
    have hP : HopP n i h := ⟨by omega, by omega, by omega, by rw [Int.toNat_natCast]; omega⟩
    rcases h1 with ⟨a, _⟩ | ⟨_, a, _⟩ | ⟨_, _, a⟩
    · exact absurd hS a
    · exact absurd hP a
    · rw [Int.toNat_natCast, Int.toNat_natCast] at a
      rcases a with ⟨_, rfl⟩ | ⟨s, e, _⟩
      · exact ⟨h2, h3⟩
      · rw [hb] at e; contradiction
theorem lAtS {n : Nt} (hn : NL n) {d : List (List Int)} (hd : DL d) (hS : ShapeP n d) {i h s : Nat} (hi : i < n.fl.length) (hh : h < (n.fl.getD i fl0).rt.length) (hb : bef d (n.fl.getD i fl0) h = some s) (hf : StC (n.fl.getD i fl0)) (hs : s ≤ 1600) :
    Ctr Try.prog 35 [ntv n, .psl 1 (dls d), i64 i, i64 h] [] (fun r o => ∃ c : C3, (VC c ∧ FinC c ∧ (∀ t, cv c t = ahd (ctc (n.fl.getD i fl0)) s t) ∧ (n.fl.getD i fl0).q * (c.2.1 : Int) = c.2.2 * (n.fl.getD i fl0).p) ∧ o = [] ∧ r = .tup [crv c.1 c.2.1 c.2.2, i64 0]) :=
  (lAt_ok n hn d hd i h).mono fun r o ⟨x, h1, h2, h3⟩ => by
    have hP : HopP n i h := ⟨by omega, by omega, by omega, by rw [Int.toNat_natCast]; omega⟩
    rcases h1 with ⟨a, _⟩ | ⟨_, a, _⟩ | ⟨_, _, a⟩
    · exact absurd hS a
    · exact absurd hP a
    · rw [Int.toNat_natCast, Int.toNat_natCast] at a
      rcases a with ⟨e, _⟩ | ⟨s', e, hm⟩
      · rw [hb] at e; contradiction
      · rw [hb] at e
        have : s' = s := by simpa using e.symm
        subst this
        obtain ⟨c, c1, c2, c3, rfl, c5⟩ := hf.ahead hs hm
        exact ⟨c, ⟨c1, c2, c3, c5⟩, h2, h3⟩
theorem rate_same {c : C3} (hv : VC c) (hfi : FinC c) {f : Fl} (hf : StC f) (h : f.q * (c.2.1 : Int) = c.2.2 * f.p) : ∃ r1 r2 : Int, rate c.1 c.2.1 c.2.2 = (r1, r2, 0) ∧ rate f.v f.p f.q = (r1, r2, 0) := by
  have p1 := hf.p1
  have p2 := hf.p2
  have q1 := hf.q1
  have q2 := hf.q2
  have c1 := hv.p1
  obtain ⟨p, hp⟩ := Int.eq_ofNat_of_zero_le (show 0 ≤ f.p by omega)
  obtain ⟨d1, d2, d3⟩ := dv12 p (by omega) (by omega)
  rw [← hp] at d1 d2 d3
  have hm := Int.mul_le_mul q2 d3 d2 (by omega)
  have h0 : 0 ≤ uwt f := Int.mul_nonneg q1 d2
  have hsm := fr_sm h0 (by unfold uwt; omega)
  have hV : ValidP f.v f.p f.q := by
    have := hf.v.valid
    rw [show (((ctc f).2.1 : Nat) : Int) = f.p by show ((f.p.toNat : Nat) : Int) = f.p; omega] at this
    exact this
  have e2 : rate f.v f.p f.q = ((fr (uwt f)).num, ((fr (uwt f)).den : Int), 0) := by
    unfold rate
    rw [if_neg (fun k => k hV), if_neg (fun k => k hf.n)]
    unfold fnew
    rw [if_neg (by omega), fr_rate p1 d1, fenc_sm hsm]
  have e1 : rate c.1 c.2.1 c.2.2 = ((fr (uwt f)).num, ((fr (uwt f)).den : Int), 0) := by
    unfold rate
    rw [if_neg (fun k => k hv.valid), if_neg (fun k => k hfi)]
    unfold fnew
    rw [if_neg (by omega), show Rat.divInt c.2.2 (c.2.1 : Int) = Rat.divInt f.q f.p from (Rat.divInt_eq_divInt_iff (by omega) (by omega)).2 (by rw [h]), fr_rate p1 d1, fenc_sm hsm]
  exact ⟨_, _, e1, e2⟩
theorem Grows_ok (l : List Int) (hl : l.length ≤ 9223372036854775807) (m : Int) (m0 : 0 ≤ m ∧ m ≤ 255) (tk : Int) (tk0 : 0 ≤ tk ∧ tk ≤ 65535) : Ctr Try.prog 9 [.psl 1 (ints l), .num .u8 m, .num .u16 tk] [] (fun r o => r = .bl true) := by
  refine fn_intro (E := env 0) tys_ok rfl rfl rfl Try.func9 (by kernel_rfl) rfl (by kernel_rfl) ?_
  have hL : (l.take 2000).length ≤ 2000 := by rw [List.length_take]; omega
  repeat' (conv => whnf
           first | (refine CondOb.mk (fun _ => ?_) (fun _ => ?_) <;> first | (exfalso; omega) | skip) | refine ArOb.fits (by first | omega | (simp only [ints_len] at *; omega)) ?_ | refine LitOb.vec ?_ | refine MakeOb.vec ?_ | refine AllocOb.box ?_ | refine AsgOb.vec ?_ | refine AggOb.mk (by decide +kernel) ?_ | refine ArU.fits (by first | omega | (simp only [ints_len] at *; omega)) ?_ | refine ArB.fits (by first | omega | (simp only [ints_len] at *; omega)) ?_ | refine CutOb.split ?_ | refine Gh.mk [] ?_ | refine And.intro (And.intro (by (simp only [List.length_append, List.length_take, List.length_drop, List.length_cons, List.length_nil, ints_len, List.length_replicate, lnl, fll, stl]; omega)) (by (simp only [List.length_append, List.length_take, List.length_drop, List.length_cons, List.length_nil, ints_len, List.length_replicate, lnl, fll, stl]; omega))) ?_ | refine ⟨_, _, rfl, ints_get (by first | omega | (simp only [ints_len] at *; omega)), ?_⟩ | refine ⟨_, _, (Int.toNat_of_nonneg (by first | omega | (simp only [ints_len] at *; omega))).symm, ints_get (by first | omega | (simp only [ints_len] at *; omega)), ?_⟩ | refine DrawOb.mk [] (.qs [0, 1, 3, 4] (.l 2 [3] (.l 5 [] (.qs [6, 7, 8, 9, 10, 11, 12, 13, 14, 15, 16, 17, 18, 19, 20, 21, 22, 23, 24, 25, 26] (.l 27 [] (.qs [28, 29, 30] .nil) .no)) .no) .no)) (by decide +kernel) ?_ | refine DrawOb.mk [] (.qs [0, 1, 2, 3, 4, 5, 6, 7, 9, 10, 11, 12, 13] (.l 8 [10] (.l 14 [] (.qs [15, 16, 17, 18, 19] (.l 20 [] (.qs [21, 22] .nil) .no)) .no) .no)) (by decide +kernel) ?_ | (refine CallOb.mk [] (sane_ok) rfl (ImpL.refl _) rfl rfl ?_; rintro _ _ ⟨rfl, rfl⟩) | (refine CallOb.mk [] (New_ok l hl) rfl (ImpL.refl _) rfl rfl ?_; rintro _ _ ⟨rfl, rfl⟩) | fail)
  all_goals try (conv => whnf)
  · rfl
  refine CallOb.mk [0] (Net_ok _ 0 hL (by omega) 3 4 (by omega) (by omega)) rfl (ImpL.refl _) rfl rfl ?_
  rintro _ _ ⟨⟨n, k, p1⟩, ⟨hG, hp1⟩, rfl, rfl⟩
  dsimp only at hG hp1 ⊢
  have hn := hG.nl
  have g := hG.g
  have g2 := g.ll
  have g3 := g.fl
  have gk := g.k1
  have hll := lnl n.ln
  have hfl := fll n.fl
  repeat' (conv => whnf
           first | (refine CondOb.mk (fun _ => ?_) (fun _ => ?_) <;> first | (exfalso; omega) | skip) | refine ArOb.fits (by first | omega | (simp only [ints_len] at *; omega)) ?_ | refine LitOb.vec ?_ | refine MakeOb.vec ?_ | refine AllocOb.box ?_ | refine AsgOb.vec ?_ | refine AggOb.mk (by decide +kernel) ?_ | refine ArU.fits (by first | omega | (simp only [ints_len] at *; omega)) ?_ | refine ArB.fits (by first | omega | (simp only [ints_len] at *; omega)) ?_ | refine CutOb.split ?_ | refine Gh.mk [] ?_ | refine And.intro (And.intro (by (simp only [List.length_append, List.length_take, List.length_drop, List.length_cons, List.length_nil, ints_len, List.length_replicate, lnl, fll, stl]; omega)) (by (simp only [List.length_append, List.length_take, List.length_drop, List.length_cons, List.length_nil, ints_len, List.length_replicate, lnl, fll, stl]; omega))) ?_ | refine ⟨_, _, rfl, ints_get (by first | omega | (simp only [ints_len] at *; omega)), ?_⟩ | refine ⟨_, _, (Int.toNat_of_nonneg (by first | omega | (simp only [ints_len] at *; omega))).symm, ints_get (by first | omega | (simp only [ints_len] at *; omega)), ?_⟩ | refine DrawOb.mk [] (.qs [0, 1, 3, 4] (.l 2 [3] (.l 5 [] (.qs [6, 7, 8, 9, 10, 11, 12, 13, 14, 15, 16, 17, 18, 19, 20, 21, 22, 23, 24, 25, 26] (.l 27 [] (.qs [28, 29, 30] .nil) .no)) .no) .no)) (by decide +kernel) ?_ | refine DrawOb.mk [] (.qs [0, 1, 2, 3, 4, 5, 6, 7, 9, 10, 11, 12, 13] (.l 8 [10] (.l 14 [] (.qs [15, 16, 17, 18, 19] (.l 20 [] (.qs [21, 22] .nil) .no)) .no) .no)) (by decide +kernel) ?_ | fail)
  all_goals try (conv => whnf)
  refine CallOb.mk [0] (Delays_ok _ p1 hL hp1 n (by omega) (fun i hi => by
    have := (g.le _ (Go.Np.getD_in (d := ln0) hi)).2; omega)) rfl (ImpL.refl _) rfl rfl ?_
  rintro _ _ ⟨⟨d, p2⟩, ⟨hD, hp2⟩, rfl, rfl⟩
  dsimp only at hD hp2 ⊢
  have hS := hD.shape g.chk
  have hdl := dls_len d
  have hdn := hD.l
  obtain ⟨bb, hbb⟩ : ∃ x, x = m.tmod 9 := ⟨_, rfl⟩
  have hb9 : 0 ≤ bb ∧ bb ≤ 8 := by
    rw [hbb, Int.tmod_eq_emod_of_nonneg m0.1]; omega
  repeat' (conv => whnf
           first | (refine CondOb.mk (fun _ => ?_) (fun _ => ?_) <;> first | (exfalso; omega) | skip) | refine ArOb.fits (by first | omega | (simp only [ints_len] at *; omega)) ?_ | refine LitOb.vec ?_ | refine MakeOb.vec ?_ | refine AllocOb.box ?_ | refine AsgOb.vec ?_ | refine AggOb.mk (by decide +kernel) ?_ | refine ArU.fits (by first | omega | (simp only [ints_len] at *; omega)) ?_ | refine ArB.fits (by first | omega | (simp only [ints_len] at *; omega)) ?_ | refine CutOb.split ?_ | refine And.intro (And.intro (by (simp only [List.length_append, List.length_take, List.length_drop, List.length_cons, List.length_nil, ints_len, List.length_replicate, lnl, fll, stl]; omega)) (by (simp only [List.length_append, List.length_take, List.length_drop, List.length_cons, List.length_nil, ints_len, List.length_replicate, lnl, fll, stl]; omega))) ?_ | refine ⟨_, _, rfl, ints_get (by first | omega | (simp only [ints_len] at *; omega)), ?_⟩ | refine ⟨_, _, (Int.toNat_of_nonneg (by first | omega | (simp only [ints_len] at *; omega))).symm, ints_get (by first | omega | (simp only [ints_len] at *; omega)), ?_⟩ | refine DrawOb.mk [] (.qs [0, 1, 3, 4] (.l 2 [3] (.l 5 [] (.qs [6, 7, 8, 9, 10, 11, 12, 13, 14, 15, 16, 17, 18, 19, 20, 21, 22, 23, 24, 25, 26] (.l 27 [] (.qs [28, 29, 30] .nil) .no)) .no) .no)) (by decide +kernel) ?_ | refine DrawOb.mk [] (.qs [0, 1, 2, 3, 4, 5, 6, 7, 9, 10, 11, 12, 13] (.l 8 [10] (.l 14 [] (.qs [15, 16, 17, 18, 19] (.l 20 [] (.qs [21, 22] .nil) .no)) .no) .no)) (by decide +kernel) ?_ | fail)
  all_goals try (conv => whnf)
  refine .mk [] ?_
  refine LoopOb.mk (Y := Nat) (st := fun i => ⟨[(42, i64 i), (41, i64 (dls d).length), (40, .psl 1 (dls d)), (10, .vec 1), (9, .psl 1 (dls d)), (8, .ptr 0 0), (1, .num .u8 m), (2, .num .u16 tk)], [.box [.psl 1 (strs n.nm), .psl 5 (lns n.ln), .psl 8 (fls n.fl)], .vec 1 (dls ((d.take i).map fun r => r.map (gdl bb)))]⟩)
    (inv := fun i => i ≤ d.length) (fun i => d.length - i) 0 [1, 2] (by omega) (by (refine Le.mk (by kernel_rfl) ?_ ?_ <;> repeat' (first | exact True.intro | refine And.intro ?_ ?_ | exact Imp.refl _ | exact Imp.any _ | exact Imp.num (by first | omega | simp only [ints_len]) | exact rfl | exact Imp.bl (by simp)))) ?_
  intro i hi
  have hbl := dls_len ((d.take i).map fun r => r.map (gdl bb))
  have hbl2 : ((d.take i).map fun r => r.map (gdl bb)).length = i := by rw [List.length_map, List.length_take]; omega
  repeat' (conv => whnf
           first | refine ArOb.fits (by first | omega | (simp only [ints_len] at *; omega)) ?_ | refine LitOb.vec ?_ | refine MakeOb.vec ?_ | refine AllocOb.box ?_ | refine AsgOb.vec ?_ | refine AggOb.mk (by decide +kernel) ?_ | refine ArU.fits (by first | omega | (simp only [ints_len] at *; omega)) ?_ | refine ArB.fits (by first | omega | (simp only [ints_len] at *; omega)) ?_ | refine CutOb.split ?_ | refine Gh.mk [] ?_ | refine And.intro (And.intro (by (simp only [List.length_append, List.length_take, List.length_drop, List.length_cons, List.length_nil, ints_len, List.length_replicate, lnl, fll, stl]; omega)) (by (simp only [List.length_append, List.length_take, List.length_drop, List.length_cons, List.length_nil, ints_len, List.length_replicate, lnl, fll, stl]; omega))) ?_ | refine ⟨_, _, rfl, ints_get (by first | omega | (simp only [ints_len] at *; omega)), ?_⟩ | refine ⟨_, _, (Int.toNat_of_nonneg (by first | omega | (simp only [ints_len] at *; omega))).symm, ints_get (by first | omega | (simp only [ints_len] at *; omega)), ?_⟩ | refine DrawOb.mk [] (.qs [0, 1, 3, 4] (.l 2 [3] (.l 5 [] (.qs [6, 7, 8, 9, 10, 11, 12, 13, 14, 15, 16, 17, 18, 19, 20, 21, 22, 23, 24, 25, 26] (.l 27 [] (.qs [28, 29, 30] .nil) .no)) .no) .no)) (by decide +kernel) ?_ | refine DrawOb.mk [] (.qs [0, 1, 2, 3, 4, 5, 6, 7, 9, 10, 11, 12, 13] (.l 8 [10] (.l 14 [] (.qs [15, 16, 17, 18, 19] (.l 20 [] (.qs [21, 22] .nil) .no)) .no) .no)) (by decide +kernel) ?_ | fail)
  all_goals try (conv => whnf)
  refine CondOb.mk (fun hlt => ?_) (fun hlt => ?_)
  · have hil : i < d.length := by omega
    have hg := dls_get hil
    have hrow : (d.getD i []).length ≤ 6 := by
      have h1 := hD.r i (by omega)
      have h2 := (g.le _ (Go.Np.getD_in (d := ln0) (show i < n.ln.length by omega))).2
      omega
    have hsn := map_take_snoc (fun r : List Int => r.map (gdl bb)) (d := []) hil
    have hrb := hD.b i (by omega)
    generalize d.getD i [] = row at *
    have hil2 := ints_len row
    repeat' (conv => whnf
             first | refine ⟨i, _, rfl, hg, ?_⟩ | (refine CondOb.mk (fun _ => ?_) (fun _ => ?_) <;> first | (exfalso; omega) | skip) | refine ArOb.fits (by first | omega | (simp only [ints_len] at *; omega)) ?_ | refine LitOb.vec ?_ | refine MakeOb.vec ?_ | refine AllocOb.box ?_ | refine AsgOb.vec ?_ | refine AggOb.mk (by decide +kernel) ?_ | refine ArU.fits (by first | omega | (simp only [ints_len] at *; omega)) ?_ | refine ArB.fits (by first | omega | (simp only [ints_len] at *; omega)) ?_ | refine CutOb.split ?_ | refine And.intro (And.intro (by (simp only [List.length_append, List.length_take, List.length_drop, List.length_cons, List.length_nil, ints_len, List.length_replicate, lnl, fll, stl]; omega)) (by (simp only [List.length_append, List.length_take, List.length_drop, List.length_cons, List.length_nil, ints_len, List.length_replicate, lnl, fll, stl]; omega))) ?_ | refine ⟨_, _, rfl, ints_get (by first | omega | (simp only [ints_len] at *; omega)), ?_⟩ | refine ⟨_, _, (Int.toNat_of_nonneg (by first | omega | (simp only [ints_len] at *; omega))).symm, ints_get (by first | omega | (simp only [ints_len] at *; omega)), ?_⟩ | refine DrawOb.mk [] (.qs [0, 1, 3, 4] (.l 2 [3] (.l 5 [] (.qs [6, 7, 8, 9, 10, 11, 12, 13, 14, 15, 16, 17, 18, 19, 20, 21, 22, 23, 24, 25, 26] (.l 27 [] (.qs [28, 29, 30] .nil) .no)) .no) .no)) (by decide +kernel) ?_ | refine DrawOb.mk [] (.qs [0, 1, 2, 3, 4, 5, 6, 7, 9, 10, 11, 12, 13] (.l 8 [10] (.l 14 [] (.qs [15, 16, 17, 18, 19] (.l 20 [] (.qs [21, 22] .nil) .no)) .no) .no)) (by decide +kernel) ?_ | fail)
    all_goals try (conv => whnf)
    refine .mk [] ?_
    refine LoopOb.mk (Y := Nat) (st := fun j => ⟨[(50, i64 j), (49, i64 (ints row).length), (48, .psl 1 (ints row)), (12, .vec 2), (42, i64 i), (41, i64 (dls d).length), (40, .psl 1 (dls d)), (10, .vec 1), (9, .psl 1 (dls d)), (8, .ptr 0 0), (1, .num .u8 m), (2, .num .u16 tk)], [.box [.psl 1 (strs n.nm), .psl 5 (lns n.ln), .psl 8 (fls n.fl)], .vec 1 (dls ((d.take i).map fun r => r.map (gdl bb))), .vec 1 (ints ((row.take j).map (gdl bb)))]⟩)
      (inv := fun j => j ≤ row.length) (fun j => row.length - j) 0 [0, 1, 2] (by omega) (by (refine Le.mk (by kernel_rfl) ?_ ?_ <;> repeat' (first | exact True.intro | refine And.intro ?_ ?_ | exact Imp.refl _ | exact Imp.any _ | exact Imp.num (by first | omega | simp only [ints_len]) | exact rfl | exact Imp.bl (by simp)))) ?_
    intro j hj
    have hrl := ints_len ((row.take j).map (gdl bb))
    have hrl2 : ((row.take j).map (gdl bb)).length = j := by rw [List.length_map, List.length_take]; omega
    repeat' (conv => whnf
             first | refine ArOb.fits (by first | omega | (simp only [ints_len] at *; omega)) ?_ | refine LitOb.vec ?_ | refine MakeOb.vec ?_ | refine AllocOb.box ?_ | refine AsgOb.vec ?_ | refine AggOb.mk (by decide +kernel) ?_ | refine ArU.fits (by first | omega | (simp only [ints_len] at *; omega)) ?_ | refine ArB.fits (by first | omega | (simp only [ints_len] at *; omega)) ?_ | refine CutOb.split ?_ | refine Gh.mk [] ?_ | refine And.intro (And.intro (by (simp only [List.length_append, List.length_take, List.length_drop, List.length_cons, List.length_nil, ints_len, List.length_replicate, lnl, fll, stl]; omega)) (by (simp only [List.length_append, List.length_take, List.length_drop, List.length_cons, List.length_nil, ints_len, List.length_replicate, lnl, fll, stl]; omega))) ?_ | refine ⟨_, _, rfl, ints_get (by first | omega | (simp only [ints_len] at *; omega)), ?_⟩ | refine ⟨_, _, (Int.toNat_of_nonneg (by first | omega | (simp only [ints_len] at *; omega))).symm, ints_get (by first | omega | (simp only [ints_len] at *; omega)), ?_⟩ | refine DrawOb.mk [] (.qs [0, 1, 3, 4] (.l 2 [3] (.l 5 [] (.qs [6, 7, 8, 9, 10, 11, 12, 13, 14, 15, 16, 17, 18, 19, 20, 21, 22, 23, 24, 25, 26] (.l 27 [] (.qs [28, 29, 30] .nil) .no)) .no) .no)) (by decide +kernel) ?_ | refine DrawOb.mk [] (.qs [0, 1, 2, 3, 4, 5, 6, 7, 9, 10, 11, 12, 13] (.l 8 [10] (.l 14 [] (.qs [15, 16, 17, 18, 19] (.l 20 [] (.qs [21, 22] .nil) .no)) .no) .no)) (by decide +kernel) ?_ | fail)
    all_goals try (conv => whnf)
    refine CondOb.mk (fun hlt2 => ?_) (fun hlt2 => ?_)
    · have hjl : j < row.length := by omega
      have hgj := ints_get hjl
      have hsj := map_take_snoc (gdl bb) (d := 0) hjl
      have hxb := hrb _ (Go.Np.getD_in (d := 0) hjl)
      generalize row.getD j 0 = x at *
      have hge : 0 ≤ x → gdl bb x = min (x + m.tmod 9) 400 := fun h => by unfold gdl; rw [if_pos h, hbb]
      have hgn : ¬0 ≤ x → gdl bb x = x := fun h => by unfold gdl; rw [if_neg h]
      repeat' (conv => whnf
               first | refine LitOb.ful ?_ | refine ⟨j, _, rfl, hgj, ?_⟩ | (refine CondOb.mk (fun _ => ?_) (fun _ => ?_) <;> first | (exfalso; omega) | skip) | refine ArOb.fits (by first | omega | (simp only [ints_len] at *; omega)) ?_ | refine LitOb.vec ?_ | refine MakeOb.vec ?_ | refine AllocOb.box ?_ | refine AsgOb.vec ?_ | refine AggOb.mk (by decide +kernel) ?_ | refine ArU.fits (by first | omega | (simp only [ints_len] at *; omega)) ?_ | refine ArB.fits (by first | omega | (simp only [ints_len] at *; omega)) ?_ | refine CutOb.split ?_ | refine And.intro (And.intro (by (simp only [List.length_append, List.length_take, List.length_drop, List.length_cons, List.length_nil, ints_len, List.length_replicate, lnl, fll, stl]; omega)) (by (simp only [List.length_append, List.length_take, List.length_drop, List.length_cons, List.length_nil, ints_len, List.length_replicate, lnl, fll, stl]; omega))) ?_ | refine ⟨_, _, rfl, ints_get (by first | omega | (simp only [ints_len] at *; omega)), ?_⟩ | refine ⟨_, _, (Int.toNat_of_nonneg (by first | omega | (simp only [ints_len] at *; omega))).symm, ints_get (by first | omega | (simp only [ints_len] at *; omega)), ?_⟩ | refine DrawOb.mk [] (.qs [0, 1, 3, 4] (.l 2 [3] (.l 5 [] (.qs [6, 7, 8, 9, 10, 11, 12, 13, 14, 15, 16, 17, 18, 19, 20, 21, 22, 23, 24, 25, 26] (.l 27 [] (.qs [28, 29, 30] .nil) .no)) .no) .no)) (by decide +kernel) ?_ | refine DrawOb.mk [] (.qs [0, 1, 2, 3, 4, 5, 6, 7, 9, 10, 11, 12, 13] (.l 8 [10] (.l 14 [] (.qs [15, 16, 17, 18, 19] (.l 20 [] (.qs [21, 22] .nil) .no)) .no) .no)) (by decide +kernel) ?_ | refine And.intro (by decide) ?_ | fail)
      all_goals try (conv => whnf)
      · refine .mk [] ?_
        exact ⟨j + 1, [0, 1, 3], by omega, by omega, by rw [hsj, ints_app, hge (by assumption)]; (refine Le.mk (by kernel_rfl) ?_ ?_ <;> repeat' (first | exact True.intro | refine And.intro ?_ ?_ | exact Imp.refl _ | exact Imp.any _ | exact Imp.num (by first | omega | simp only [ints_len]) | exact rfl | exact Imp.bl (by simp)))⟩
      · refine .mk [] ?_
        exact ⟨j + 1, [0, 1, 3], by omega, by omega, by rw [hsj, ints_app, hgn (by assumption)]; (refine Le.mk (by kernel_rfl) ?_ ?_ <;> repeat' (first | exact True.intro | refine And.intro ?_ ?_ | exact Imp.refl _ | exact Imp.any _ | exact Imp.num (by first | omega | simp only [ints_len]) | exact rfl | exact Imp.bl (by simp)))⟩
    · have e : j = row.length := by omega
      subst e
      rw [List.take_length]
      repeat' (conv => whnf
               first | (refine CondOb.mk (fun _ => ?_) (fun _ => ?_) <;> first | (exfalso; omega) | skip) | refine ArOb.fits (by first | omega | (simp only [ints_len] at *; omega)) ?_ | refine LitOb.vec ?_ | refine MakeOb.vec ?_ | refine AllocOb.box ?_ | refine AsgOb.vec ?_ | refine AggOb.mk (by decide +kernel) ?_ | refine ArU.fits (by first | omega | (simp only [ints_len] at *; omega)) ?_ | refine ArB.fits (by first | omega | (simp only [ints_len] at *; omega)) ?_ | refine CutOb.split ?_ | refine And.intro (And.intro (by (simp only [List.length_append, List.length_take, List.length_drop, List.length_cons, List.length_nil, ints_len, List.length_replicate, lnl, fll, stl]; omega)) (by (simp only [List.length_append, List.length_take, List.length_drop, List.length_cons, List.length_nil, ints_len, List.length_replicate, lnl, fll, stl]; omega))) ?_ | refine ⟨_, _, rfl, ints_get (by first | omega | (simp only [ints_len] at *; omega)), ?_⟩ | refine ⟨_, _, (Int.toNat_of_nonneg (by first | omega | (simp only [ints_len] at *; omega))).symm, ints_get (by first | omega | (simp only [ints_len] at *; omega)), ?_⟩ | refine DrawOb.mk [] (.qs [0, 1, 3, 4] (.l 2 [3] (.l 5 [] (.qs [6, 7, 8, 9, 10, 11, 12, 13, 14, 15, 16, 17, 18, 19, 20, 21, 22, 23, 24, 25, 26] (.l 27 [] (.qs [28, 29, 30] .nil) .no)) .no) .no)) (by decide +kernel) ?_ | refine DrawOb.mk [] (.qs [0, 1, 2, 3, 4, 5, 6, 7, 9, 10, 11, 12, 13] (.l 8 [10] (.l 14 [] (.qs [15, 16, 17, 18, 19] (.l 20 [] (.qs [21, 22] .nil) .no)) .no) .no)) (by decide +kernel) ?_ | fail)
      all_goals try (conv => whnf)
      refine .mk [.fz 2] ?_
      repeat' (conv => whnf
               first | (refine CondOb.mk (fun _ => ?_) (fun _ => ?_) <;> first | (exfalso; omega) | skip) | refine ArOb.fits (by first | omega | (simp only [ints_len] at *; omega)) ?_ | refine LitOb.vec ?_ | refine MakeOb.vec ?_ | refine AllocOb.box ?_ | refine AsgOb.vec ?_ | refine AggOb.mk (by decide +kernel) ?_ | refine ArU.fits (by first | omega | (simp only [ints_len] at *; omega)) ?_ | refine ArB.fits (by first | omega | (simp only [ints_len] at *; omega)) ?_ | refine CutOb.split ?_ | refine And.intro (And.intro (by (simp only [List.length_append, List.length_take, List.length_drop, List.length_cons, List.length_nil, ints_len, List.length_replicate, lnl, fll, stl]; omega)) (by (simp only [List.length_append, List.length_take, List.length_drop, List.length_cons, List.length_nil, ints_len, List.length_replicate, lnl, fll, stl]; omega))) ?_ | refine ⟨_, _, rfl, ints_get (by first | omega | (simp only [ints_len] at *; omega)), ?_⟩ | refine ⟨_, _, (Int.toNat_of_nonneg (by first | omega | (simp only [ints_len] at *; omega))).symm, ints_get (by first | omega | (simp only [ints_len] at *; omega)), ?_⟩ | refine DrawOb.mk [] (.qs [0, 1, 3, 4] (.l 2 [3] (.l 5 [] (.qs [6, 7, 8, 9, 10, 11, 12, 13, 14, 15, 16, 17, 18, 19, 20, 21, 22, 23, 24, 25, 26] (.l 27 [] (.qs [28, 29, 30] .nil) .no)) .no) .no)) (by decide +kernel) ?_ | refine DrawOb.mk [] (.qs [0, 1, 2, 3, 4, 5, 6, 7, 9, 10, 11, 12, 13] (.l 8 [10] (.l 14 [] (.qs [15, 16, 17, 18, 19] (.l 20 [] (.qs [21, 22] .nil) .no)) .no) .no)) (by decide +kernel) ?_ | fail)
      all_goals try (conv => whnf)
      refine .mk [] ?_
      exact ⟨i + 1, [0, 4], by omega, by omega, by rw [hsn, dls_app]; (refine Le.mk (by kernel_rfl) ?_ ?_ <;> repeat' (first | exact True.intro | refine And.intro ?_ ?_ | exact Imp.refl _ | exact Imp.any _ | exact Imp.num (by first | omega | simp only [ints_len]) | exact rfl | exact Imp.bl (by simp)))⟩
  have e : i = d.length := by omega
  subst e
  rw [List.take_length]
  have hGr := bgd_gr hS (fun i hi j hj => (hD.b i (by omega) _ (Go.Np.getD_in hj)).2) hb9.1
  have hdb : DL (bgd bb d) := by
    refine ⟨by have := hGr.sb.l; omega, fun i => ?_⟩
    by_cases h : i < (bgd bb d).length
    · have h1 := hGr.sb.r i h
      have h2 := (g.le _ (Go.Np.getD_in (d := ln0) (show i < n.ln.length by have := hGr.sb.l; omega))).2
      omega
    · rw [List.getD_eq_getElem?_getD, List.getElem?_eq_none (by omega)]; decide
  have hdd : DL d := by
    refine ⟨by omega, fun i => ?_⟩
    by_cases h : i < d.length
    · have h1 := hS.r i h
      have h2 := (g.le _ (Go.Np.getD_in (d := ln0) (show i < n.ln.length by omega))).2
      omega
    · rw [List.getD_eq_getElem?_getD, List.getElem?_eq_none (by omega)]; decide
  rw [show (d.map fun r => r.map (gdl bb)) = bgd bb d from rfl]
  generalize bgd bb d = db at *
  obtain ⟨kk, hkk, hk9⟩ : ∃ x : Nat, tk.tmod 900 = x ∧ x < 900 := ⟨(tk % 900).toNat, by rw [Int.tmod_eq_emod_of_nonneg tk0.1]; omega, by omega⟩
  repeat' (conv => whnf
           first | (refine CondOb.mk (fun _ => ?_) (fun _ => ?_) <;> first | (exfalso; omega) | skip) | refine ArOb.fits (by first | omega | (simp only [ints_len] at *; omega)) ?_ | refine LitOb.vec ?_ | refine MakeOb.vec ?_ | refine AllocOb.box ?_ | refine AsgOb.vec ?_ | refine AggOb.mk (by decide +kernel) ?_ | refine ArU.fits (by first | omega | (simp only [ints_len] at *; omega)) ?_ | refine ArB.fits (by first | omega | (simp only [ints_len] at *; omega)) ?_ | refine CutOb.split ?_ | refine And.intro (And.intro (by (simp only [List.length_append, List.length_take, List.length_drop, List.length_cons, List.length_nil, ints_len, List.length_replicate, lnl, fll, stl]; omega)) (by (simp only [List.length_append, List.length_take, List.length_drop, List.length_cons, List.length_nil, ints_len, List.length_replicate, lnl, fll, stl]; omega))) ?_ | refine ⟨_, _, rfl, ints_get (by first | omega | (simp only [ints_len] at *; omega)), ?_⟩ | refine ⟨_, _, (Int.toNat_of_nonneg (by first | omega | (simp only [ints_len] at *; omega))).symm, ints_get (by first | omega | (simp only [ints_len] at *; omega)), ?_⟩ | refine DrawOb.mk [] (.qs [0, 1, 3, 4] (.l 2 [3] (.l 5 [] (.qs [6, 7, 8, 9, 10, 11, 12, 13, 14, 15, 16, 17, 18, 19, 20, 21, 22, 23, 24, 25, 26] (.l 27 [] (.qs [28, 29, 30] .nil) .no)) .no) .no)) (by decide +kernel) ?_ | refine DrawOb.mk [] (.qs [0, 1, 2, 3, 4, 5, 6, 7, 9, 10, 11, 12, 13] (.l 8 [10] (.l 14 [] (.qs [15, 16, 17, 18, 19] (.l 20 [] (.qs [21, 22] .nil) .no)) .no) .no)) (by decide +kernel) ?_ | refine And.intro (by decide) ?_ | fail)
  all_goals try (conv => whnf)
  rw [hkk]
  refine .mk [.fa] ?_
  refine LoopOb.mk (Y := Nat) (st := fun i => ⟨[(78, i64 i), (77, i64 (fls n.fl).length), (76, .psl 8 (fls n.fl)), (15, i64 kk), (10, .psl 1 (dls db)), (9, .psl 1 (dls d)), (8, .ptr 0 0)], [.box [.psl 1 (strs n.nm), .psl 5 (lns n.ln), .psl 8 (fls n.fl)]]⟩)
    (inv := fun i => i ≤ n.fl.length) (fun i => n.fl.length - i) 0 [0] (by omega) (by (refine Le.mk (by kernel_rfl) ?_ ?_ <;> repeat' (first | exact True.intro | refine And.intro ?_ ?_ | exact Imp.refl _ | exact Imp.any _ | exact Imp.num (by first | omega | simp only [ints_len]) | exact rfl | exact Imp.bl (by simp)))) ?_
  clear hlt hbl hbl2 hi
  intro i hi
  repeat' (conv => whnf
           first | refine ArOb.fits (by first | omega | (simp only [ints_len] at *; omega)) ?_ | refine LitOb.vec ?_ | refine MakeOb.vec ?_ | refine AllocOb.box ?_ | refine AsgOb.vec ?_ | refine AggOb.mk (by decide +kernel) ?_ | refine ArU.fits (by first | omega | (simp only [ints_len] at *; omega)) ?_ | refine ArB.fits (by first | omega | (simp only [ints_len] at *; omega)) ?_ | refine CutOb.split ?_ | refine Gh.mk [] ?_ | refine And.intro (And.intro (by (simp only [List.length_append, List.length_take, List.length_drop, List.length_cons, List.length_nil, ints_len, List.length_replicate, lnl, fll, stl]; omega)) (by (simp only [List.length_append, List.length_take, List.length_drop, List.length_cons, List.length_nil, ints_len, List.length_replicate, lnl, fll, stl]; omega))) ?_ | refine ⟨_, _, rfl, ints_get (by first | omega | (simp only [ints_len] at *; omega)), ?_⟩ | refine ⟨_, _, (Int.toNat_of_nonneg (by first | omega | (simp only [ints_len] at *; omega))).symm, ints_get (by first | omega | (simp only [ints_len] at *; omega)), ?_⟩ | refine DrawOb.mk [] (.qs [0, 1, 3, 4] (.l 2 [3] (.l 5 [] (.qs [6, 7, 8, 9, 10, 11, 12, 13, 14, 15, 16, 17, 18, 19, 20, 21, 22, 23, 24, 25, 26] (.l 27 [] (.qs [28, 29, 30] .nil) .no)) .no) .no)) (by decide +kernel) ?_ | refine DrawOb.mk [] (.qs [0, 1, 2, 3, 4, 5, 6, 7, 9, 10, 11, 12, 13] (.l 8 [10] (.l 14 [] (.qs [15, 16, 17, 18, 19] (.l 20 [] (.qs [21, 22] .nil) .no)) .no) .no)) (by decide +kernel) ?_ | fail)
  all_goals try (conv => whnf)
  refine CondOb.mk (fun hlt => ?_) (fun hlt => ?_)
  · have hil : i < n.fl.length := by omega
    have hg := flg hil
    have hst := stc_of (g.fg _ (Go.Np.getD_in (d := fl0) hil))
    have hrt := chk_fl g.chk i hil
    have cN1 := fun (h : Nat) => lAtN hn hdd hS hil (h := h)
    have cN2 := fun (h : Nat) => lAtN hn hdb hGr.sb hil (h := h)
    have cS1 := fun (h s : Nat) => lAtS hn hdd hS hil (h := h) (s := s)
    have cS2 := fun (h s : Nat) => lAtS hn hdb hGr.sb hil (h := h) (s := s)
    have hbf := hGr.bef hrt
    have hle1 := fun (h s : Nat) => bef_le hS hrt (i := h) (s := s)
    have hle2 := fun (h s : Nat) => bef_le hGr.sb hrt (i := h) (s := s)
    have cBf : ∀ h s : Nat, h < (n.fl.getD i fl0).rt.length → bef d (n.fl.getD i fl0) h = some s → Ctr Try.prog 39 [ntv n, .psl 1 (dls d), i64 i, i64 h] [] (fun r o => o = [] ∧ r = .tup [i64 s, .bl true]) := fun h s hh hb => by
      have := Before_ok n hn d hdd i h
      rw [befP_t ⟨hS, ⟨by omega, by omega, by omega, by rw [Int.toNat_natCast]; omega⟩⟩, Int.toNat_natCast, Int.toNat_natCast, hb] at this
      exact this
    generalize n.fl.getD i fl0 = f at *
    have hrl := ints_len f.rt
    have hr4 := hrt.l2
    repeat' (conv => whnf
             first | refine ⟨i, _, rfl, hg, ?_⟩ | (refine CondOb.mk (fun _ => ?_) (fun _ => ?_) <;> first | (exfalso; omega) | skip) | refine ArOb.fits (by first | omega | (simp only [ints_len] at *; omega)) ?_ | refine LitOb.vec ?_ | refine MakeOb.vec ?_ | refine AllocOb.box ?_ | refine AsgOb.vec ?_ | refine AggOb.mk (by decide +kernel) ?_ | refine ArU.fits (by first | omega | (simp only [ints_len] at *; omega)) ?_ | refine ArB.fits (by first | omega | (simp only [ints_len] at *; omega)) ?_ | refine CutOb.split ?_ | refine And.intro (And.intro (by (simp only [List.length_append, List.length_take, List.length_drop, List.length_cons, List.length_nil, ints_len, List.length_replicate, lnl, fll, stl]; omega)) (by (simp only [List.length_append, List.length_take, List.length_drop, List.length_cons, List.length_nil, ints_len, List.length_replicate, lnl, fll, stl]; omega))) ?_ | refine ⟨_, _, rfl, ints_get (by first | omega | (simp only [ints_len] at *; omega)), ?_⟩ | refine ⟨_, _, (Int.toNat_of_nonneg (by first | omega | (simp only [ints_len] at *; omega))).symm, ints_get (by first | omega | (simp only [ints_len] at *; omega)), ?_⟩ | refine DrawOb.mk [] (.qs [0, 1, 3, 4] (.l 2 [3] (.l 5 [] (.qs [6, 7, 8, 9, 10, 11, 12, 13, 14, 15, 16, 17, 18, 19, 20, 21, 22, 23, 24, 25, 26] (.l 27 [] (.qs [28, 29, 30] .nil) .no)) .no) .no)) (by decide +kernel) ?_ | refine DrawOb.mk [] (.qs [0, 1, 2, 3, 4, 5, 6, 7, 9, 10, 11, 12, 13] (.l 8 [10] (.l 14 [] (.qs [15, 16, 17, 18, 19] (.l 20 [] (.qs [21, 22] .nil) .no)) .no) .no)) (by decide +kernel) ?_ | fail)
    all_goals try (conv => whnf)
    refine .mk [] ?_
    refine LoopOb.mk (Y := Nat) (st := fun h => ⟨[(86, i64 h), (85, i64 (ints f.rt).length), (84, .psl 1 (ints f.rt)), (16, i64 i), (17, .ptr 1 0), (78, i64 i), (77, i64 (fls n.fl).length), (76, .psl 8 (fls n.fl)), (15, i64 kk), (10, .psl 1 (dls db)), (9, .psl 1 (dls d)), (8, .ptr 0 0)], [.box [.psl 1 (strs n.nm), .psl 5 (lns n.ln), .psl 8 (fls n.fl)], .box (flv f)]⟩)
      (inv := fun h => h ≤ f.rt.length) (fun h => f.rt.length - h) 0 [0, 1] (by omega) (by (refine Le.mk (by kernel_rfl) ?_ ?_ <;> repeat' (first | exact True.intro | refine And.intro ?_ ?_ | exact Imp.refl _ | exact Imp.any _ | exact Imp.num (by first | omega | simp only [ints_len]) | exact rfl | exact Imp.bl (by simp)))) ?_
    intro h hh
    repeat' (conv => whnf
             first | refine ArOb.fits (by first | omega | (simp only [ints_len] at *; omega)) ?_ | refine LitOb.vec ?_ | refine MakeOb.vec ?_ | refine AllocOb.box ?_ | refine AsgOb.vec ?_ | refine AggOb.mk (by decide +kernel) ?_ | refine ArU.fits (by first | omega | (simp only [ints_len] at *; omega)) ?_ | refine ArB.fits (by first | omega | (simp only [ints_len] at *; omega)) ?_ | refine CutOb.split ?_ | refine Gh.mk [] ?_ | refine And.intro (And.intro (by (simp only [List.length_append, List.length_take, List.length_drop, List.length_cons, List.length_nil, ints_len, List.length_replicate, lnl, fll, stl]; omega)) (by (simp only [List.length_append, List.length_take, List.length_drop, List.length_cons, List.length_nil, ints_len, List.length_replicate, lnl, fll, stl]; omega))) ?_ | refine ⟨_, _, rfl, ints_get (by first | omega | (simp only [ints_len] at *; omega)), ?_⟩ | refine ⟨_, _, (Int.toNat_of_nonneg (by first | omega | (simp only [ints_len] at *; omega))).symm, ints_get (by first | omega | (simp only [ints_len] at *; omega)), ?_⟩ | refine DrawOb.mk [] (.qs [0, 1, 3, 4] (.l 2 [3] (.l 5 [] (.qs [6, 7, 8, 9, 10, 11, 12, 13, 14, 15, 16, 17, 18, 19, 20, 21, 22, 23, 24, 25, 26] (.l 27 [] (.qs [28, 29, 30] .nil) .no)) .no) .no)) (by decide +kernel) ?_ | refine DrawOb.mk [] (.qs [0, 1, 2, 3, 4, 5, 6, 7, 9, 10, 11, 12, 13] (.l 8 [10] (.l 14 [] (.qs [15, 16, 17, 18, 19] (.l 20 [] (.qs [21, 22] .nil) .no)) .no) .no)) (by decide +kernel) ?_ | fail)
    all_goals try (conv => whnf)
    refine CondOb.mk (fun hlt2 => ?_) (fun hlt2 => ?_)
    · have hhl : h < f.rt.length := by omega
      rcases hbf h (by omega) with ⟨b1, b2⟩ | ⟨s, s', b1, b2, b3⟩
      · repeat' (conv => whnf
                 first | (refine CondOb.mk (fun _ => ?_) (fun _ => ?_) <;> first | (exfalso; omega) | skip) | refine ArOb.fits (by first | omega | (simp only [ints_len] at *; omega)) ?_ | refine LitOb.vec ?_ | refine MakeOb.vec ?_ | refine AllocOb.box ?_ | refine AsgOb.vec ?_ | refine AggOb.mk (by decide +kernel) ?_ | refine ArU.fits (by first | omega | (simp only [ints_len] at *; omega)) ?_ | refine ArB.fits (by first | omega | (simp only [ints_len] at *; omega)) ?_ | refine CutOb.split ?_ | refine Gh.mk [] ?_ | refine And.intro (And.intro (by (simp only [List.length_append, List.length_take, List.length_drop, List.length_cons, List.length_nil, ints_len, List.length_replicate, lnl, fll, stl]; omega)) (by (simp only [List.length_append, List.length_take, List.length_drop, List.length_cons, List.length_nil, ints_len, List.length_replicate, lnl, fll, stl]; omega))) ?_ | refine ⟨_, _, rfl, ints_get (by first | omega | (simp only [ints_len] at *; omega)), ?_⟩ | refine ⟨_, _, (Int.toNat_of_nonneg (by first | omega | (simp only [ints_len] at *; omega))).symm, ints_get (by first | omega | (simp only [ints_len] at *; omega)), ?_⟩ | refine DrawOb.mk [] (.qs [0, 1, 3, 4] (.l 2 [3] (.l 5 [] (.qs [6, 7, 8, 9, 10, 11, 12, 13, 14, 15, 16, 17, 18, 19, 20, 21, 22, 23, 24, 25, 26] (.l 27 [] (.qs [28, 29, 30] .nil) .no)) .no) .no)) (by decide +kernel) ?_ | refine DrawOb.mk [] (.qs [0, 1, 2, 3, 4, 5, 6, 7, 9, 10, 11, 12, 13] (.l 8 [10] (.l 14 [] (.qs [15, 16, 17, 18, 19] (.l 20 [] (.qs [21, 22] .nil) .no)) .no) .no)) (by decide +kernel) ?_ | (refine CallOb.mk [] (cN1 h hhl b1) rfl (ImpL.refl _) rfl rfl ?_; rintro _ _ ⟨rfl, rfl⟩) | (refine CallOb.mk [] (cN2 h hhl b2) rfl (ImpL.refl _) rfl rfl ?_; rintro _ _ ⟨rfl, rfl⟩) | fail)
        all_goals try (conv => whnf)
        all_goals first
          | (exfalso; omega)
          | exact ⟨h + 1, [0, 1], by omega, by omega, by (refine Le.mk (by kernel_rfl) ?_ ?_ <;> repeat' (first | exact True.intro | refine And.intro ?_ ?_ | exact Imp.refl _ | exact Imp.any _ | exact Imp.num (by first | omega | simp only [ints_len]) | exact rfl | exact Imp.bl (by simp)))⟩
          | trace_state
      · have hs1 := hle1 h s (by omega) b1
        have hs2 := hle2 h s' (by omega) b2
        have hz0 : h = 0 → s = 0 := fun e => by subst e; simpa [bef] using b1.symm
        have cB := cBf h s hhl b1
        have cA1 := cS1 h s hhl b1 hst (by omega)
        have cA2 := cS2 h s' hhl b2 hst (by omega)
        have hz := hst.z
        have hal := ahd_le hst b3 kk
        have cK : ∀ t : Nat, t ≤ 1048576 → Ctr Try.prog 37 [crv f.v f.p f.q, i64 t] [] (fun r o => o = [] ∧ r = i64 (cv (ctc f) t)) := fun t ht => by
          have := kAt_ok f.v f.p.toNat f.q hst.v t ht
          rw [show ((f.p.toNat : Nat) : Int) = f.p by have := hst.p1; omega] at this
          exact this
        have cKc : ∀ c : C3, VC c → ∀ t : Nat, t ≤ 1048576 → Ctr Try.prog 37 [crv c.1 c.2.1 c.2.2, i64 t] [] (fun r o => o = [] ∧ r = i64 (cv c t)) := fun c hv t ht => kAt_ok c.1 c.2.1 c.2.2 hv t ht
        have cE : ∀ c : C3, VC c → (∀ t, cv c t = ahd (ctc f) s t) → s = 0 → Ctr Try.prog 38 [crv c.1 c.2.1 c.2.2, crv f.v f.p f.q] [] (fun r o => o = [] ∧ r = .bl true) := fun c hv hc e => by
          have := Equal_ok c (ctc f) hv hst.v (fun t => by
            rw [hc, e]; unfold ahd; split
            · rename_i h0; rw [h0, hz]
            · rfl)
          rw [show (((ctc f).2.1 : Nat) : Int) = f.p by show ((f.p.toNat : Nat) : Int) = f.p; have := hst.p1; omega] at this
          exact this
        repeat' (conv => whnf
                 first | (refine CondOb.mk (fun _ => ?_) (fun _ => ?_) <;> first | (exfalso; omega) | skip) | refine ArOb.fits (by first | omega | (simp only [ints_len] at *; omega)) ?_ | refine LitOb.vec ?_ | refine MakeOb.vec ?_ | refine AllocOb.box ?_ | refine AsgOb.vec ?_ | refine AggOb.mk (by decide +kernel) ?_ | refine ArU.fits (by first | omega | (simp only [ints_len] at *; omega)) ?_ | refine ArB.fits (by first | omega | (simp only [ints_len] at *; omega)) ?_ | refine CutOb.split ?_ | refine Gh.mk [] ?_ | refine And.intro (And.intro (by (simp only [List.length_append, List.length_take, List.length_drop, List.length_cons, List.length_nil, ints_len, List.length_replicate, lnl, fll, stl]; omega)) (by (simp only [List.length_append, List.length_take, List.length_drop, List.length_cons, List.length_nil, ints_len, List.length_replicate, lnl, fll, stl]; omega))) ?_ | refine ⟨_, _, rfl, ints_get (by first | omega | (simp only [ints_len] at *; omega)), ?_⟩ | refine ⟨_, _, (Int.toNat_of_nonneg (by first | omega | (simp only [ints_len] at *; omega))).symm, ints_get (by first | omega | (simp only [ints_len] at *; omega)), ?_⟩ | refine DrawOb.mk [] (.qs [0, 1, 3, 4] (.l 2 [3] (.l 5 [] (.qs [6, 7, 8, 9, 10, 11, 12, 13, 14, 15, 16, 17, 18, 19, 20, 21, 22, 23, 24, 25, 26] (.l 27 [] (.qs [28, 29, 30] .nil) .no)) .no) .no)) (by decide +kernel) ?_ | refine DrawOb.mk [] (.qs [0, 1, 2, 3, 4, 5, 6, 7, 9, 10, 11, 12, 13] (.l 8 [10] (.l 14 [] (.qs [15, 16, 17, 18, 19] (.l 20 [] (.qs [21, 22] .nil) .no)) .no) .no)) (by decide +kernel) ?_ | fail)
        all_goals try (conv => whnf)
        refine CallOb.mk [] cA1 rfl (ImpL.refl _) rfl rfl ?_
        rintro _ _ ⟨c, ⟨vc1, fc1, ec1, rc1⟩, rfl, rfl⟩
        repeat' (conv => whnf
                 first | (refine CondOb.mk (fun _ => ?_) (fun _ => ?_) <;> first | (exfalso; omega) | skip) | refine ArOb.fits (by first | omega | (simp only [ints_len] at *; omega)) ?_ | refine LitOb.vec ?_ | refine MakeOb.vec ?_ | refine AllocOb.box ?_ | refine AsgOb.vec ?_ | refine AggOb.mk (by decide +kernel) ?_ | refine ArU.fits (by first | omega | (simp only [ints_len] at *; omega)) ?_ | refine ArB.fits (by first | omega | (simp only [ints_len] at *; omega)) ?_ | refine CutOb.split ?_ | refine Gh.mk [] ?_ | refine And.intro (And.intro (by (simp only [List.length_append, List.length_take, List.length_drop, List.length_cons, List.length_nil, ints_len, List.length_replicate, lnl, fll, stl]; omega)) (by (simp only [List.length_append, List.length_take, List.length_drop, List.length_cons, List.length_nil, ints_len, List.length_replicate, lnl, fll, stl]; omega))) ?_ | refine ⟨_, _, rfl, ints_get (by first | omega | (simp only [ints_len] at *; omega)), ?_⟩ | refine ⟨_, _, (Int.toNat_of_nonneg (by first | omega | (simp only [ints_len] at *; omega))).symm, ints_get (by first | omega | (simp only [ints_len] at *; omega)), ?_⟩ | refine DrawOb.mk [] (.qs [0, 1, 3, 4] (.l 2 [3] (.l 5 [] (.qs [6, 7, 8, 9, 10, 11, 12, 13, 14, 15, 16, 17, 18, 19, 20, 21, 22, 23, 24, 25, 26] (.l 27 [] (.qs [28, 29, 30] .nil) .no)) .no) .no)) (by decide +kernel) ?_ | refine DrawOb.mk [] (.qs [0, 1, 2, 3, 4, 5, 6, 7, 9, 10, 11, 12, 13] (.l 8 [10] (.l 14 [] (.qs [15, 16, 17, 18, 19] (.l 20 [] (.qs [21, 22] .nil) .no)) .no) .no)) (by decide +kernel) ?_ | fail)
        all_goals try (conv => whnf)
        refine CallOb.mk [] cA2 rfl (ImpL.refl _) rfl rfl ?_
        rintro _ _ ⟨c', ⟨vc2, fc2, ec2, rc2⟩, rfl, rfl⟩
        obtain ⟨r1, r2, hr1, hr2⟩ := rate_same vc1 fc1 hst rc1
        have cR1 := rRate_ok c.1 c.2.1 c.2.2
        have cR2 := rRate_ok f.v f.p f.q
        rw [hr1] at cR1
        rw [hr2] at cR2
        dsimp only [res] at cR1 cR2
        have cK1 := cKc c vc1 kk (by omega)
        have cK2 := cKc c' vc2 kk (by omega)
        have cK3 := cKc c vc1 0 (by omega)
        have cK4 := cK (kk + s) (by omega)
        have hk1 := ec1 kk
        have hk2 := ec2 kk
        have hk3 := ec1 0
        have hk5 : 0 < kk → ahd (ctc f) s kk = cv (ctc f) (kk + s) := fun h0 => by unfold ahd; rw [if_neg (by omega)]
        have hk6 : ahd (ctc f) s 0 = 0 := by unfold ahd; rw [if_pos rfl]
        have cE' := cE c vc1 ec1
        generalize cv c kk = x1 at *
        generalize cv c' kk = x2 at *
        generalize cv c 0 = x3 at *
        generalize cv (ctc f) (kk + s) = x4 at *
        rw [Int.natCast_add] at cK4
        repeat' (conv => whnf
                 first | (refine CondOb.mk (fun _ => ?_) (fun _ => ?_) <;> first | (exfalso; omega) | skip) | refine ArOb.fits (by first | omega | (simp only [ints_len] at *; omega)) ?_ | refine LitOb.vec ?_ | refine MakeOb.vec ?_ | refine AllocOb.box ?_ | refine AsgOb.vec ?_ | refine AggOb.mk (by decide +kernel) ?_ | refine ArU.fits (by first | omega | (simp only [ints_len] at *; omega)) ?_ | refine ArB.fits (by first | omega | (simp only [ints_len] at *; omega)) ?_ | refine CutOb.split ?_ | refine Gh.mk [] ?_ | refine And.intro (And.intro (by (simp only [List.length_append, List.length_take, List.length_drop, List.length_cons, List.length_nil, ints_len, List.length_replicate, lnl, fll, stl]; omega)) (by (simp only [List.length_append, List.length_take, List.length_drop, List.length_cons, List.length_nil, ints_len, List.length_replicate, lnl, fll, stl]; omega))) ?_ | refine ⟨_, _, rfl, ints_get (by first | omega | (simp only [ints_len] at *; omega)), ?_⟩ | refine ⟨_, _, (Int.toNat_of_nonneg (by first | omega | (simp only [ints_len] at *; omega))).symm, ints_get (by first | omega | (simp only [ints_len] at *; omega)), ?_⟩ | refine DrawOb.mk [] (.qs [0, 1, 3, 4] (.l 2 [3] (.l 5 [] (.qs [6, 7, 8, 9, 10, 11, 12, 13, 14, 15, 16, 17, 18, 19, 20, 21, 22, 23, 24, 25, 26] (.l 27 [] (.qs [28, 29, 30] .nil) .no)) .no) .no)) (by decide +kernel) ?_ | refine DrawOb.mk [] (.qs [0, 1, 2, 3, 4, 5, 6, 7, 9, 10, 11, 12, 13] (.l 8 [10] (.l 14 [] (.qs [15, 16, 17, 18, 19] (.l 20 [] (.qs [21, 22] .nil) .no)) .no) .no)) (by decide +kernel) ?_ | (refine CallOb.mk [] cR1 rfl (ImpL.refl _) rfl rfl ?_; rintro _ _ ⟨rfl, rfl⟩) | (refine CallOb.mk [] cR2 rfl (ImpL.refl _) rfl rfl ?_; rintro _ _ ⟨rfl, rfl⟩) | (refine CallOb.mk [] cK1 rfl (ImpL.refl _) rfl rfl ?_; rintro _ _ ⟨rfl, rfl⟩) | (refine CallOb.mk [] cK2 rfl (ImpL.refl _) rfl rfl ?_; rintro _ _ ⟨rfl, rfl⟩) | (refine CallOb.mk [] cK3 rfl (ImpL.refl _) rfl rfl ?_; rintro _ _ ⟨rfl, rfl⟩) | (refine CallOb.mk [] cK4 rfl (ImpL.refl _) rfl rfl ?_; rintro _ _ ⟨rfl, rfl⟩) | (refine CallOb.mk [] (cE' (hz0 (by omega))) rfl (ImpL.refl _) rfl rfl ?_; rintro _ _ ⟨rfl, rfl⟩) | (refine CallOb.mk [] cB rfl (ImpL.refl _) rfl rfl ?_; rintro _ _ ⟨rfl, rfl⟩) | fail)
        all_goals try (conv => whnf)
        all_goals first
          | (refine ⟨h + 1, [0, 1], by omega, by omega, ?_⟩; (refine Le.mk (by kernel_rfl) ?_ ?_ <;> repeat' (first | exact True.intro | refine And.intro ?_ ?_ | exact Imp.refl _ | exact Imp.any _ | exact Imp.num (by first | omega | simp only [ints_len]) | exact rfl | exact Imp.bl (by simp))); done)
          | (exfalso; have hcj := (by assumption : ¬conj _); exact hcj (by simp [conj]))
          | (exfalso; omega)
          | trace_state
    · have e : h = f.rt.length := by omega
      subst e
      repeat' (conv => whnf
               first | (refine CondOb.mk (fun _ => ?_) (fun _ => ?_) <;> first | (exfalso; omega) | skip) | refine ArOb.fits (by first | omega | (simp only [ints_len] at *; omega)) ?_ | refine LitOb.vec ?_ | refine MakeOb.vec ?_ | refine AllocOb.box ?_ | refine AsgOb.vec ?_ | refine AggOb.mk (by decide +kernel) ?_ | refine ArU.fits (by first | omega | (simp only [ints_len] at *; omega)) ?_ | refine ArB.fits (by first | omega | (simp only [ints_len] at *; omega)) ?_ | refine CutOb.split ?_ | refine Gh.mk [] ?_ | refine And.intro (And.intro (by (simp only [List.length_append, List.length_take, List.length_drop, List.length_cons, List.length_nil, ints_len, List.length_replicate, lnl, fll, stl]; omega)) (by (simp only [List.length_append, List.length_take, List.length_drop, List.length_cons, List.length_nil, ints_len, List.length_replicate, lnl, fll, stl]; omega))) ?_ | refine ⟨_, _, rfl, ints_get (by first | omega | (simp only [ints_len] at *; omega)), ?_⟩ | refine ⟨_, _, (Int.toNat_of_nonneg (by first | omega | (simp only [ints_len] at *; omega))).symm, ints_get (by first | omega | (simp only [ints_len] at *; omega)), ?_⟩ | refine DrawOb.mk [] (.qs [0, 1, 3, 4] (.l 2 [3] (.l 5 [] (.qs [6, 7, 8, 9, 10, 11, 12, 13, 14, 15, 16, 17, 18, 19, 20, 21, 22, 23, 24, 25, 26] (.l 27 [] (.qs [28, 29, 30] .nil) .no)) .no) .no)) (by decide +kernel) ?_ | refine DrawOb.mk [] (.qs [0, 1, 2, 3, 4, 5, 6, 7, 9, 10, 11, 12, 13] (.l 8 [10] (.l 14 [] (.qs [15, 16, 17, 18, 19] (.l 20 [] (.qs [21, 22] .nil) .no)) .no) .no)) (by decide +kernel) ?_ | fail)
      all_goals try (conv => whnf)
      exact ⟨i + 1, [0], by omega, by omega, by (refine Le.mk (by kernel_rfl) ?_ ?_ <;> repeat' (first | exact True.intro | refine And.intro ?_ ?_ | exact Imp.refl _ | exact Imp.any _ | exact Imp.num (by first | omega | simp only [ints_len]) | exact rfl | exact Imp.bl (by simp)))⟩
  · repeat' (conv => whnf
             first | (refine CondOb.mk (fun _ => ?_) (fun _ => ?_) <;> first | (exfalso; omega) | skip) | refine ArOb.fits (by first | omega | (simp only [ints_len] at *; omega)) ?_ | refine LitOb.vec ?_ | refine MakeOb.vec ?_ | refine AllocOb.box ?_ | refine AsgOb.vec ?_ | refine AggOb.mk (by decide +kernel) ?_ | refine ArU.fits (by first | omega | (simp only [ints_len] at *; omega)) ?_ | refine ArB.fits (by first | omega | (simp only [ints_len] at *; omega)) ?_ | refine CutOb.split ?_ | refine Gh.mk [] ?_ | refine And.intro (And.intro (by (simp only [List.length_append, List.length_take, List.length_drop, List.length_cons, List.length_nil, ints_len, List.length_replicate, lnl, fll, stl]; omega)) (by (simp only [List.length_append, List.length_take, List.length_drop, List.length_cons, List.length_nil, ints_len, List.length_replicate, lnl, fll, stl]; omega))) ?_ | refine ⟨_, _, rfl, ints_get (by first | omega | (simp only [ints_len] at *; omega)), ?_⟩ | refine ⟨_, _, (Int.toNat_of_nonneg (by first | omega | (simp only [ints_len] at *; omega))).symm, ints_get (by first | omega | (simp only [ints_len] at *; omega)), ?_⟩ | refine DrawOb.mk [] (.qs [0, 1, 3, 4] (.l 2 [3] (.l 5 [] (.qs [6, 7, 8, 9, 10, 11, 12, 13, 14, 15, 16, 17, 18, 19, 20, 21, 22, 23, 24, 25, 26] (.l 27 [] (.qs [28, 29, 30] .nil) .no)) .no) .no)) (by decide +kernel) ?_ | refine DrawOb.mk [] (.qs [0, 1, 2, 3, 4, 5, 6, 7, 9, 10, 11, 12, 13] (.l 8 [10] (.l 14 [] (.qs [15, 16, 17, 18, 19] (.l 20 [] (.qs [21, 22] .nil) .no)) .no) .no)) (by decide +kernel) ?_ | (refine CallOb.mk [] (sane_ok) rfl (ImpL.refl _) rfl rfl ?_; rintro _ _ ⟨rfl, rfl⟩) | fail)
    all_goals try (conv => whnf)
    rfl
end Go.Proofs.Ytnlmmjmcackgjaa
