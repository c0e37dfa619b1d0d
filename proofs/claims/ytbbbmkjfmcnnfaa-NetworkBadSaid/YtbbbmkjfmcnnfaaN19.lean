/-
  A text of the proofs of this seat: lemmas that the statements' proofs use; it states nothing of the program by itself beyond the contracts that its theorems bear. Conditions: those that stand in each theorem. Its short name: N19.
-/
import Derived.Test.YtbbbmkjfmcnnfaaN18
import Derived.Test.YtbbbmkjfmcnnfaaNp4
set_option linter.unusedVariables false
set_option linter.unusedSimpArgs false
namespace Go.Proofs.Ytbbbmkjfmcnnfaa
open Go.Sx Go.Np Go.Cv
set_option maxRecDepth 4000
set_option maxHeartbeats 2000000
theorem Imp.pslr {e : Nat} {a b : List (List SV)} (h : ImpR a b) : Imp (.psl e a) (.psl e b) := fun σ β v hv => by
  simp only [rel] at *
  obtain ⟨ad, cap, vss, e1, hc, h1, h2, h3⟩ := hv
  refine ⟨ad, cap, vss, by rw [← h.len]; exact e1, by rw [← h.len]; exact hc, h.ok h1, h.row h2, ?_⟩
  rcases h3 with h3 | h3
  · subst h3
    refine .inl ?_
    have := h.len
    exact List.length_eq_zero_iff.1 this.symm
  · exact .inr h3
theorem ImpR.refl : ∀ l : List (List SV), ImpR l l
  | [] => trivial
  | s :: l => ⟨ImpL.refl s, ImpR.refl l⟩
theorem ImpR.set : ∀ {l : List (List SV)} {i : Nat} {a b : List SV}, ImpL a b → ImpR (l.set i a) (l.set i b)
  | [], i, a, b, _ => trivial
  | s :: l, 0, a, b, h => ⟨h, ImpR.refl l⟩
  | s :: l, i + 1, a, b, h => ⟨ImpL.refl s, ImpR.set h⟩
theorem setF_nl {n : Nt} (hn : NL n) {i : Nat} {f : Fl} (hf : f.nm.size ≤ 9223372036854775807 ∧ f.rt.length ≤ 9223372036854775807 ∧ f.v.length ≤ 9223372036854775807) : NL (setF n i f) := by
  refine ⟨hn.nm, hn.ln, by show (n.fl.set i f).length ≤ _; rw [List.length_set]; exact hn.fl, hn.ns, hn.lw, fun x hx => ?_⟩
  rcases List.mem_or_eq_of_mem_set hx with hx | rfl
  · exact hn.fs x hx
  · exact hf
/- what is asked of a wrong net -/
theorem bad_two {n : Nt} (hn : NL n) {i : Nat} {f : Fl} {e : Int} (hf : f.nm.size ≤ 9223372036854775807 ∧ f.rt.length ≤ 9223372036854775807 ∧ f.v.length ≤ 9223372036854775807) (he : e ≠ 0) (h : chkN (setF n i f) = e) :
    Ctr Try.prog 12 [.agg [.psl 1 (strs n.nm), .psl 5 (lns n.ln), .psl 8 ((fls n.fl).set i (flv f))]] [] (fun r o => o = [] ∧ r = i64 e) ∧
    Ctr Try.prog 21 [.agg [.psl 1 (strs n.nm), .psl 5 (lns n.ln), .psl 8 ((fls n.fl).set i (flv f))], i64 0] [] (fun r o => o = [] ∧ r = .psl 2 []) := by
  have c := Check_ok (setF n i f) (setF_nl hn hf)
  have s := Sizes_ok (setF n i f) (setF_nl hn hf) 0
  have e1 : szR (setF n i f) 0 = [] := by
    unfold szR szC; rw [h, if_pos (.inl he)]; rfl
  rw [e1] at s
  rw [h] at c
  rw [fls_set]
  exact ⟨c, s⟩
theorem Bad_ok (l : List Int) (hl : l.length ≤ 9223372036854775807) (which : Int) (h0 : 0 ≤ which) (h1 : which ≤ 255) : Ctr Try.prog 7 [.psl 1 (ints l), .num .u8 which] [] (fun r o => r = .bl true) := by
  refine fn_intro (E := env 0) tys_ok rfl rfl rfl Try.func7 (by kernel_rfl) rfl (by kernel_rfl) ?_
  have hL : (l.take 2000).length ≤ 2000 := by rw [List.length_take]; omega
  repeat' (conv => whnf
           first | (refine CondOb.mk (fun _ => ?_) (fun _ => ?_) <;> first | (exfalso; omega) | skip) | refine ArOb.fits (by first | omega | (simp only [ints_len] at *; omega)) ?_ | refine LitOb.vec ?_ | refine MakeOb.vec ?_ | refine AllocOb.box ?_ | refine AggOb.mk (by decide +kernel) ?_ | refine ArU.fits (by first | omega | (simp only [ints_len] at *; omega)) ?_ | refine ArB.fits (by first | omega | (simp only [ints_len] at *; omega)) ?_ | refine CutOb.split ?_ | refine Gh.mk [] ?_ | refine And.intro (And.intro (by (simp only [List.length_append, List.length_take, List.length_drop, List.length_cons, List.length_nil, ints_len, List.length_replicate, lnl, fll, stl]; omega)) (by (simp only [List.length_append, List.length_take, List.length_drop, List.length_cons, List.length_nil, ints_len, List.length_replicate, lnl, fll, stl]; omega))) ?_ | refine ⟨_, _, rfl, ints_get (by first | omega | (simp only [ints_len] at *; omega)), ?_⟩ | refine ⟨_, _, (Int.toNat_of_nonneg (by first | omega | (simp only [ints_len] at *; omega))).symm, ints_get (by first | omega | (simp only [ints_len] at *; omega)), ?_⟩ | refine DrawOb.mk [] (.qs [0, 1, 2, 3, 4, 5, 6, 7, 8, 9] .nil) (by decide +kernel) ?_ | refine DrawOb.mk [] (.qs [0, 1, 2, 3, 5, 6, 7, 8] (.l 4 [8] (.l 9 [] (.qs [10, 11] (.l 12 [] .nil .no)) .no) .no)) (by decide +kernel) ?_ | (refine CallOb.mk [] (sane_ok) rfl (ImpL.refl _) rfl rfl ?_; rintro _ _ ⟨rfl, rfl⟩) | (refine CallOb.mk [] (New_ok l hl) rfl (ImpL.refl _) rfl rfl ?_; rintro _ _ ⟨rfl, rfl⟩) | fail)
  all_goals try (conv => whnf)
  · rfl
  refine CallOb.mk [0] (Net_ok _ 0 hL (by omega) 3 4 (by omega) (by omega)) rfl (ImpL.refl _) rfl rfl ?_
  rintro _ _ ⟨⟨n, k, p1⟩, ⟨hG, hp1⟩, rfl, rfl⟩
  dsimp only at hG hp1 ⊢
  have hn := hG.nl
  have g := hG.g
  have g2 := g.ll
  have g3 := g.fl
  have hll := lnl n.ln
  have hfl := fll n.fl
  have cC := Check_ok n hn
  rw [g.chk] at cC
  repeat' (conv => whnf
           first | (refine CondOb.mk (fun _ => ?_) (fun _ => ?_) <;> first | (exfalso; omega) | skip) | refine ArOb.fits (by first | omega | (simp only [ints_len] at *; omega)) ?_ | refine LitOb.vec ?_ | refine MakeOb.vec ?_ | refine AllocOb.box ?_ | refine AggOb.mk (by decide +kernel) ?_ | refine ArU.fits (by first | omega | (simp only [ints_len] at *; omega)) ?_ | refine ArB.fits (by first | omega | (simp only [ints_len] at *; omega)) ?_ | refine CutOb.split ?_ | refine Gh.mk [] ?_ | refine And.intro (And.intro (by (simp only [List.length_append, List.length_take, List.length_drop, List.length_cons, List.length_nil, ints_len, List.length_replicate, lnl, fll, stl]; omega)) (by (simp only [List.length_append, List.length_take, List.length_drop, List.length_cons, List.length_nil, ints_len, List.length_replicate, lnl, fll, stl]; omega))) ?_ | refine ⟨_, _, rfl, ints_get (by first | omega | (simp only [ints_len] at *; omega)), ?_⟩ | refine ⟨_, _, (Int.toNat_of_nonneg (by first | omega | (simp only [ints_len] at *; omega))).symm, ints_get (by first | omega | (simp only [ints_len] at *; omega)), ?_⟩ | refine DrawOb.mk [] (.qs [0, 1, 2, 3, 4, 5, 6, 7, 8, 9] .nil) (by decide +kernel) ?_ | refine DrawOb.mk [] (.qs [0, 1, 2, 3, 5, 6, 7, 8] (.l 4 [8] (.l 9 [] (.qs [10, 11] (.l 12 [] .nil .no)) .no) .no)) (by decide +kernel) ?_ | (refine CallOb.mk [] cC rfl (ImpL.refl _) rfl rfl ?_; rintro _ _ ⟨rfl, rfl⟩) | (refine CallOb.mk [] (sane_ok) rfl (ImpL.refl _) rfl rfl ?_; rintro _ _ ⟨rfl, rfl⟩) | fail)
  all_goals try (conv => whnf)
  all_goals try rfl
  all_goals try (exfalso; omega)
  have hmod : 0 ≤ which.tmod ((fls n.fl).length : Int) ∧ which.tmod ((fls n.fl).length : Int) < n.fl.length := by
    rw [Int.tmod_eq_emod_of_nonneg h0]
    have a1 := Int.emod_nonneg which (show ((fls n.fl).length : Int) ≠ 0 by omega)
    have a2 := Int.emod_lt_of_pos which (show (0 : Int) < ((fls n.fl).length : Int) by omega)
    omega
  refine ⟨by omega, ?_⟩
  repeat' (conv => whnf
           first | (refine CondOb.mk (fun _ => ?_) (fun _ => ?_) <;> first | (exfalso; omega) | skip) | refine ArOb.fits (by first | omega | (simp only [ints_len] at *; omega)) ?_ | refine LitOb.vec ?_ | refine MakeOb.vec ?_ | refine AllocOb.box ?_ | refine AggOb.mk (by decide +kernel) ?_ | refine ArU.fits (by first | omega | (simp only [ints_len] at *; omega)) ?_ | refine ArB.fits (by first | omega | (simp only [ints_len] at *; omega)) ?_ | refine CutOb.split ?_ | refine And.intro (And.intro (by (simp only [List.length_append, List.length_take, List.length_drop, List.length_cons, List.length_nil, ints_len, List.length_replicate, lnl, fll, stl]; omega)) (by (simp only [List.length_append, List.length_take, List.length_drop, List.length_cons, List.length_nil, ints_len, List.length_replicate, lnl, fll, stl]; omega))) ?_ | refine ⟨_, _, rfl, ints_get (by first | omega | (simp only [ints_len] at *; omega)), ?_⟩ | refine ⟨_, _, (Int.toNat_of_nonneg (by first | omega | (simp only [ints_len] at *; omega))).symm, ints_get (by first | omega | (simp only [ints_len] at *; omega)), ?_⟩ | refine DrawOb.mk [] (.qs [0, 1, 2, 3, 4, 5, 6, 7, 8, 9] .nil) (by decide +kernel) ?_ | refine DrawOb.mk [] (.qs [0, 1, 2, 3, 5, 6, 7, 8] (.l 4 [8] (.l 9 [] (.qs [10, 11] (.l 12 [] .nil .no)) .no) .no)) (by decide +kernel) ?_ | refine ⟨(which.tmod ((fls n.fl).length : Int)).toNat, by omega, by omega, ?_⟩ | fail)
  all_goals try (conv => whnf)
  have hdiv : which.tdiv 8 = which / 8 := Int.tdiv_eq_ediv_of_nonneg h0
  rw [hdiv]
  have hmod6 : (which / 8).tmod 6 = which / 8 % 6 := Int.tmod_eq_emod_of_nonneg (by omega)
  obtain ⟨i, hi⟩ : ∃ i : Nat, (which.tmod ((fls n.fl).length : Int)).toNat = i := ⟨_, rfl⟩
  rw [hi]
  have hil : i < n.fl.length := by omega
  have hg := flg hil
  have hF := g.fg _ (getD_in (d := fl0) hil)
  have hr1 := hF.r1
  generalize hfe : n.fl.getD i fl0 = f at *
  have hrl := ints_len f.rt
  have hL2 := hn.fs _ (getD_in (d := fl0) hil)
  rw [hfe] at hL2
  obtain ⟨b, b1, b2, p1', p2', hv0, q1, q2⟩ := hF.ct
  have hlo := hF.lo
  have hhi := hF.hi
  have nm0 : f.nm = (n.fl.getD i fl0).nm := by rw [hfe]
  have hA : ints f.rt ++ [[SV.num IntKind.i64 (f.rt.getD 0 0)]] = ints (f.rt ++ [f.rt.getD 0 0]) := by simp [ints]
  have hB : [[SV.num IntKind.i64 (((lns n.ln).length : Nat) : Int)]] ++ ints f.rt = ints ((n.ln.length : Int) :: f.rt) := by rw [hll]; rfl
  have r0 := bad_two hn (i := i) (f := ⟨f.nm, f.rt ++ [f.rt.getD 0 0], f.cl, f.lo, f.hi, f.v, f.p, f.q⟩) (e := 60) ⟨hL2.1, by dsimp only; rw [List.length_append, List.length_singleton]; omega, hL2.2.2⟩ (by decide) (bad_route (f := ⟨f.nm, f.rt ++ [f.rt.getD 0 0], f.cl, f.lo, f.hi, f.v, f.p, f.q⟩) (e := 60) g hil nm0 (by decide) (r_twice (f := f) hF rfl (fun l hl => (g.le l hl).2)))
  have r1 := bad_two hn (i := i) (f := ⟨f.nm, (n.ln.length : Int) :: f.rt, f.cl, f.lo, f.hi, f.v, f.p, f.q⟩) (e := 2) ⟨hL2.1, by dsimp only; rw [List.length_cons]; omega, hL2.2.2⟩ (by decide) (bad_route (f := ⟨f.nm, (n.ln.length : Int) :: f.rt, f.cl, f.lo, f.hi, f.v, f.p, f.q⟩) (e := 2) g hil nm0 (by decide) (r_range (ls := n.ln) (f := f) (c := 0) hr1.2))
  have r2 := bad_two hn (i := i) (f := ⟨f.nm, [], f.cl, f.lo, f.hi, f.v, f.p, f.q⟩) (e := 5) ⟨hL2.1, by simp, hL2.2.2⟩ (by decide) (bad_route (f := ⟨f.nm, [], f.cl, f.lo, f.hi, f.v, f.p, f.q⟩) (e := 5) g hil nm0 (by decide) rfl)
  have r3 := bad_two hn (i := i) (f := ⟨f.nm, f.rt, f.cl, f.lo, f.hi, [1], 1, 0⟩) (e := 6) ⟨hL2.1, hL2.2.1, by simp⟩ (by decide) (bad_traf (f := ⟨f.nm, f.rt, f.cl, f.lo, f.hi, [1], 1, 0⟩) (e := 6) g hil nm0 (by rw [hfe]) (by rw [hfe]) (by decide) (by
    have h1 : ValidP [1] 1 0 := by
      refine ⟨by decide, by decide, by decide, by decide, by decide, by decide, by decide, by decide, fun j hj => ?_, by decide, by decide⟩
      simp only [List.length_cons, List.length_nil] at hj; omega
    unfold trafE
    dsimp only
    rw [if_neg (by omega), if_neg (fun h => h h1), if_pos (by decide)]))
  have r4 := bad_two hn (i := i) (f := ⟨f.nm, f.rt, f.cl, 0, f.hi, f.v, f.p, f.q⟩) (e := 2) ⟨hL2.1, hL2.2.1, hL2.2.2⟩ (by decide) (bad_traf (f := ⟨f.nm, f.rt, f.cl, 0, f.hi, f.v, f.p, f.q⟩) (e := 2) g hil nm0 (by rw [hfe]) (by rw [hfe]) (by decide) (by
    unfold trafE
    dsimp only
    rw [if_pos (by omega)]))
  have r5 := bad_two hn (i := i) (f := ⟨⟨#[70]⟩, f.rt, f.cl, f.lo, f.hi, f.v, f.p, f.q⟩) (e := 4) ⟨by show 1 ≤ _; omega, hL2.2.1, hL2.2.2⟩ (by decide) (bad_name (f := ⟨⟨#[70]⟩, f.rt, f.cl, f.lo, f.hi, f.v, f.p, f.q⟩) g hil (show ¬WordP ⟨#[70]⟩ by decide +kernel))
  repeat' (conv => whnf
           first | (refine Gh.mk [.fa] ?_; (conv => whnf); refine CallOb.mk [] r5.1 rfl ⟨Imp.agg ⟨Imp.refl _, Imp.refl _, Imp.pslr (ImpR.set ⟨Imp.refl _, Imp.refl _, Imp.refl _, Imp.refl _, Imp.refl _, Imp.refl _, Imp.refl _, Imp.refl _, trivial⟩), trivial⟩, trivial⟩ rfl rfl ?_; rintro _ _ ⟨rfl, rfl⟩) | (refine Gh.mk [.fa] ?_; (conv => whnf); refine CallOb.mk [] r4.1 rfl ⟨Imp.agg ⟨Imp.refl _, Imp.refl _, Imp.pslr (ImpR.set ⟨Imp.refl _, Imp.refl _, Imp.refl _, Imp.refl _, Imp.refl _, Imp.refl _, Imp.refl _, Imp.refl _, trivial⟩), trivial⟩, trivial⟩ rfl rfl ?_; rintro _ _ ⟨rfl, rfl⟩) | (refine Gh.mk [.fa] ?_; (conv => whnf); refine CallOb.mk [] r3.1 rfl ⟨Imp.agg ⟨Imp.refl _, Imp.refl _, Imp.pslr (ImpR.set ⟨Imp.refl _, Imp.refl _, Imp.refl _, Imp.refl _, Imp.refl _, Imp.psl rfl, Imp.refl _, Imp.refl _, trivial⟩), trivial⟩, trivial⟩ rfl rfl ?_; rintro _ _ ⟨rfl, rfl⟩) | (refine Gh.mk [.fa] ?_; (conv => whnf); refine CallOb.mk [] r2.1 rfl ⟨Imp.agg ⟨Imp.refl _, Imp.refl _, Imp.pslr (ImpR.set ⟨Imp.refl _, Imp.nil _, Imp.refl _, Imp.refl _, Imp.refl _, Imp.refl _, Imp.refl _, Imp.refl _, trivial⟩), trivial⟩, trivial⟩ rfl rfl ?_; rintro _ _ ⟨rfl, rfl⟩) | (refine Gh.mk [.fa] ?_; (conv => whnf); refine CallOb.mk [] r1.1 rfl ⟨Imp.agg ⟨Imp.refl _, Imp.refl _, Imp.pslr (ImpR.set ⟨Imp.refl _, Imp.psl hB, Imp.refl _, Imp.refl _, Imp.refl _, Imp.refl _, Imp.refl _, Imp.refl _, trivial⟩), trivial⟩, trivial⟩ rfl rfl ?_; rintro _ _ ⟨rfl, rfl⟩) | (refine Gh.mk [.fa] ?_; (conv => whnf); refine CallOb.mk [] r0.1 rfl ⟨Imp.agg ⟨Imp.refl _, Imp.refl _, Imp.pslr (ImpR.set ⟨Imp.refl _, Imp.psl hA, Imp.refl _, Imp.refl _, Imp.refl _, Imp.refl _, Imp.refl _, Imp.refl _, trivial⟩), trivial⟩, trivial⟩ rfl rfl ?_; rintro _ _ ⟨rfl, rfl⟩) | (refine Gh.mk [.fa, .cl 2, .fz 2] ?_; (conv => whnf); refine CallOb.mk [] r5.1 rfl ⟨Imp.agg ⟨Imp.refl _, Imp.refl _, Imp.pslr (ImpR.set ⟨Imp.refl _, Imp.refl _, Imp.refl _, Imp.refl _, Imp.refl _, Imp.refl _, Imp.refl _, Imp.refl _, trivial⟩), trivial⟩, trivial⟩ rfl rfl ?_; rintro _ _ ⟨rfl, rfl⟩) | (refine Gh.mk [.fa, .cl 2, .fz 2] ?_; (conv => whnf); refine CallOb.mk [] r4.1 rfl ⟨Imp.agg ⟨Imp.refl _, Imp.refl _, Imp.pslr (ImpR.set ⟨Imp.refl _, Imp.refl _, Imp.refl _, Imp.refl _, Imp.refl _, Imp.refl _, Imp.refl _, Imp.refl _, trivial⟩), trivial⟩, trivial⟩ rfl rfl ?_; rintro _ _ ⟨rfl, rfl⟩) | (refine Gh.mk [.fa, .cl 2, .fz 2] ?_; (conv => whnf); refine CallOb.mk [] r3.1 rfl ⟨Imp.agg ⟨Imp.refl _, Imp.refl _, Imp.pslr (ImpR.set ⟨Imp.refl _, Imp.refl _, Imp.refl _, Imp.refl _, Imp.refl _, Imp.psl rfl, Imp.refl _, Imp.refl _, trivial⟩), trivial⟩, trivial⟩ rfl rfl ?_; rintro _ _ ⟨rfl, rfl⟩) | (refine Gh.mk [.fa, .cl 2, .fz 2] ?_; (conv => whnf); refine CallOb.mk [] r2.1 rfl ⟨Imp.agg ⟨Imp.refl _, Imp.refl _, Imp.pslr (ImpR.set ⟨Imp.refl _, Imp.nil _, Imp.refl _, Imp.refl _, Imp.refl _, Imp.refl _, Imp.refl _, Imp.refl _, trivial⟩), trivial⟩, trivial⟩ rfl rfl ?_; rintro _ _ ⟨rfl, rfl⟩) | (refine Gh.mk [.fa, .cl 2, .fz 2] ?_; (conv => whnf); refine CallOb.mk [] r1.1 rfl ⟨Imp.agg ⟨Imp.refl _, Imp.refl _, Imp.pslr (ImpR.set ⟨Imp.refl _, Imp.psl hB, Imp.refl _, Imp.refl _, Imp.refl _, Imp.refl _, Imp.refl _, Imp.refl _, trivial⟩), trivial⟩, trivial⟩ rfl rfl ?_; rintro _ _ ⟨rfl, rfl⟩) | (refine Gh.mk [.fa, .cl 2, .fz 2] ?_; (conv => whnf); refine CallOb.mk [] r0.1 rfl ⟨Imp.agg ⟨Imp.refl _, Imp.refl _, Imp.pslr (ImpR.set ⟨Imp.refl _, Imp.psl hA, Imp.refl _, Imp.refl _, Imp.refl _, Imp.refl _, Imp.refl _, Imp.refl _, trivial⟩), trivial⟩, trivial⟩ rfl rfl ?_; rintro _ _ ⟨rfl, rfl⟩) | (refine Gh.mk [.op 2 i] ⟨_, hg, ?_⟩) | (refine CondOb.mk (fun _ => ?_) (fun _ => ?_) <;> first | (exfalso; omega) | skip) | refine ArOb.fits (by first | omega | (simp only [ints_len] at *; omega)) ?_ | refine LitOb.vec ?_ | refine MakeOb.vec ?_ | refine AllocOb.box ?_ | refine AggOb.mk (by decide +kernel) ?_ | refine ArU.fits (by first | omega | (simp only [ints_len] at *; omega)) ?_ | refine ArB.fits (by first | omega | (simp only [ints_len] at *; omega)) ?_ | refine CutOb.split ?_ | refine Gh.mk [] ?_ | refine And.intro (And.intro (by (simp only [List.length_append, List.length_take, List.length_drop, List.length_cons, List.length_nil, ints_len, List.length_replicate, lnl, fll, stl]; omega)) (by (simp only [List.length_append, List.length_take, List.length_drop, List.length_cons, List.length_nil, ints_len, List.length_replicate, lnl, fll, stl]; omega))) ?_ | refine ⟨_, _, rfl, ints_get (by first | omega | (simp only [ints_len] at *; omega)), ?_⟩ | refine ⟨_, _, (Int.toNat_of_nonneg (by first | omega | (simp only [ints_len] at *; omega))).symm, ints_get (by first | omega | (simp only [ints_len] at *; omega)), ?_⟩ | refine DrawOb.mk [] (.qs [0, 1, 2, 3, 4, 5, 6, 7, 8, 9] .nil) (by decide +kernel) ?_ | refine DrawOb.mk [] (.qs [0, 1, 2, 3, 4, 6, 7, 8, 9, 10, 11] (.l 5 [11, 9] (.l 12 [] (.l 13 [] (.qs [14, 15] (.l 16 [] .nil .no)) .no) .no) (.l 12 [4] (.l 5 [] (.l 13 [] (.qs [14, 15] (.l 16 [] .nil .no)) .no) .no) .no))) (by decide +kernel) ?_ | refine DrawOb.mk [] (.qs [0, 1, 2, 3, 5, 6, 7, 8] (.l 4 [8] (.l 9 [] (.qs [10, 11] (.l 12 [] .nil .no)) .no) .no)) (by decide +kernel) ?_ | (refine CallOb.mk [] r0.2 rfl ⟨Imp.agg ⟨Imp.refl _, Imp.refl _, Imp.pslr (ImpR.set ⟨Imp.refl _, Imp.psl hA, Imp.refl _, Imp.refl _, Imp.refl _, Imp.refl _, Imp.refl _, Imp.refl _, trivial⟩), trivial⟩, Imp.refl _, trivial⟩ rfl rfl ?_; rintro _ _ ⟨rfl, rfl⟩) | (refine CallOb.mk [] r1.2 rfl ⟨Imp.agg ⟨Imp.refl _, Imp.refl _, Imp.pslr (ImpR.set ⟨Imp.refl _, Imp.psl hB, Imp.refl _, Imp.refl _, Imp.refl _, Imp.refl _, Imp.refl _, Imp.refl _, trivial⟩), trivial⟩, Imp.refl _, trivial⟩ rfl rfl ?_; rintro _ _ ⟨rfl, rfl⟩) | (refine CallOb.mk [] r2.2 rfl ⟨Imp.agg ⟨Imp.refl _, Imp.refl _, Imp.pslr (ImpR.set ⟨Imp.refl _, Imp.nil _, Imp.refl _, Imp.refl _, Imp.refl _, Imp.refl _, Imp.refl _, Imp.refl _, trivial⟩), trivial⟩, Imp.refl _, trivial⟩ rfl rfl ?_; rintro _ _ ⟨rfl, rfl⟩) | (refine CallOb.mk [] r3.2 rfl ⟨Imp.agg ⟨Imp.refl _, Imp.refl _, Imp.pslr (ImpR.set ⟨Imp.refl _, Imp.refl _, Imp.refl _, Imp.refl _, Imp.refl _, Imp.psl rfl, Imp.refl _, Imp.refl _, trivial⟩), trivial⟩, Imp.refl _, trivial⟩ rfl rfl ?_; rintro _ _ ⟨rfl, rfl⟩) | (refine CallOb.mk [] r4.2 rfl ⟨Imp.agg ⟨Imp.refl _, Imp.refl _, Imp.pslr (ImpR.set ⟨Imp.refl _, Imp.refl _, Imp.refl _, Imp.refl _, Imp.refl _, Imp.refl _, Imp.refl _, Imp.refl _, trivial⟩), trivial⟩, Imp.refl _, trivial⟩ rfl rfl ?_; rintro _ _ ⟨rfl, rfl⟩) | (refine CallOb.mk [] r5.2 rfl ⟨Imp.agg ⟨Imp.refl _, Imp.refl _, Imp.pslr (ImpR.set ⟨Imp.refl _, Imp.refl _, Imp.refl _, Imp.refl _, Imp.refl _, Imp.refl _, Imp.refl _, Imp.refl _, trivial⟩), trivial⟩, Imp.refl _, trivial⟩ rfl rfl ?_; rintro _ _ ⟨rfl, rfl⟩) | refine ⟨by decide, ?_⟩ | refine ⟨_, hg, ?_⟩ | refine And.intro rfl ?_ | (refine CallOb.mk [] (sane_ok) rfl (ImpL.refl _) rfl rfl ?_; rintro _ _ ⟨rfl, rfl⟩) | refine And.intro ?_ ?_ | fail)
  all_goals try (conv => whnf)
  all_goals first
    | rfl
    | (exfalso; omega)
    | (exfalso; simp only [List.length_append, List.length_cons, List.length_nil, ints_len] at *; omega)
    | trace_state
end Go.Proofs.Ytbbbmkjfmcnnfaa
