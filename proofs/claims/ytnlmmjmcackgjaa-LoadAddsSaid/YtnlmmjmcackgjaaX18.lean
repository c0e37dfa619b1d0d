/-
  A text of the proofs of this seat: lemmas that the statements' proofs use; it states nothing of the program by itself beyond the contracts that its theorems bear. Conditions: those that stand in each theorem. Its short name: X18.
-/
import Derived.Test.YtnlmmjmcackgjaaX17
set_option linter.unusedVariables false
set_option linter.unusedSimpArgs false
namespace Go.Proofs.Ytnlmmjmcackgjaa
open Go.Sx Go.Np Go.Cv Go.Tp
set_option maxRecDepth 4000
set_option maxHeartbeats 2000000
abbrev cvw (c : C3) : List SV := [.psl 1 (ints c.1), i64 c.2.1, i64 c.2.2]
/- the contracts of the first classes, and nothing behind them -/
abbrev cvx (cs : List C3) (N : Nat) : List (List SV) := cs.map cvw ++ List.replicate (N - cs.length) [.nil, i64 0, i64 0]
theorem cvx_len {cs : List C3} {N : Nat} (h : cs.length ≤ N) : (cvx cs N).length = N := by simp [cvx]; omega
theorem cvx_set {cs : List C3} {N : Nat} (h : cs.length < N) (c : C3) : (cvx cs N).set cs.length (cvw c) = cvx (cs ++ [c]) N := by
  have e : N - cs.length = (N - (cs.length + 1)) + 1 := by omega
  simp only [cvx]
  rw [e, List.replicate_succ, List.set_append_right _ _ (by simp)]
  simp
theorem cvx_get {cs : List C3} {N : Nat} (h : cs.length < N) : (cvx cs N)[cs.length]? = some [.nil, i64 0, i64 0] := by
  have e : N - cs.length = (N - (cs.length + 1)) + 1 := by omega
  simp only [cvx]
  rw [e, List.replicate_succ, List.getElem?_append_right (by simp)]
  simp
theorem snoc_all {J : Nat → C3 → Prop} {cs : List C3} {b : C3} (h : ∀ c, c < cs.length → J c (cs.getD c ([], 0, 0))) (hb : J cs.length b) : ∀ c, c < (cs ++ [b]).length → J c ((cs ++ [b]).getD c ([], 0, 0)) := by
  intro c hc
  rw [List.length_append, List.length_singleton] at hc
  by_cases e : c = cs.length
  · subst e; simpa [List.getD_eq_getElem?_getD] using hb
  · have := h c (by omega)
    simpa [List.getD_eq_getElem?_getD, List.getElem?_append_left (show c < cs.length by omega)] using this
theorem Contracts_ok (n : Nt) (hn : NL n) (d : List (List Int)) (hd : DL d) (hS : ShapeP n d) (l : Int) (N : Nat) (hl : 0 ≤ l ∧ l < n.ln.length) (hN : (n.ln.getD l.toNat ln0).n = N) (hN6 : N ≤ 6) (J : Nat → C3 → Prop)
    (hcl : ∀ c : Nat, c < N → Ctr Try.prog 83 [ntv n, .psl 1 (dls d), i64 l, i64 c] [] (fun r o => ∃ y : C3 × Int, (y.2 = 0 → J c y.1) ∧ o = [] ∧ r = .tup [crv y.1.1 y.1.2.1 y.1.2.2, i64 y.2])) :
    Ctr Try.prog 44 [ntv n, .psl 1 (dls d), i64 l] [] (fun r o => ∃ y : List C3 × Int, (y.2 = 0 → y.1.length = N ∧ ∀ c, c < N → J c (y.1.getD c ([], 0, 0))) ∧ o = [] ∧ r = .tup [.psl 3 (y.1.map cvw), i64 y.2]) := by
  refine Ctr.impE ?_
  refine fn_intro (E := env 0) tys_ok rfl rfl rfl Try.func44 (by kernel_rfl) rfl (by kernel_rfl) ?_
  have hll := lnl n.ln
  have hg := lng (l := n.ln) (i := l.toNat) (by omega)
  generalize n.ln.getD l.toNat ln0 = ll at *
  repeat' (conv => whnf
           first | refine ⟨l.toNat, _, by omega, hg, ?_⟩ | (refine CondOb.mk (fun _ => ?_) (fun _ => ?_) <;> first | (exfalso; omega) | skip) | refine ArOb.fits (by first | omega | (simp only [ints_len] at *; omega)) ?_ | refine LitOb.vec ?_ | refine MakeOb.vec ?_ | refine AllocOb.box ?_ | refine AsgOb.vec ?_ | refine AggOb.mk (by decide +kernel) ?_ | refine ArU.fits (by first | omega | (simp only [ints_len] at *; omega)) ?_ | refine ArB.fits (by first | omega | (simp only [ints_len] at *; omega)) ?_ | refine CutOb.split ?_ | refine Gh.mk [] ?_ | refine And.intro (And.intro (by (simp only [List.length_append, List.length_take, List.length_drop, List.length_cons, List.length_nil, ints_len, List.length_replicate, lnl, fll, stl]; omega)) (by (simp only [List.length_append, List.length_take, List.length_drop, List.length_cons, List.length_nil, ints_len, List.length_replicate, lnl, fll, stl]; omega))) ?_ | refine ⟨_, _, rfl, ints_get (by first | omega | (simp only [ints_len] at *; omega)), ?_⟩ | refine ⟨_, _, (Int.toNat_of_nonneg (by first | omega | (simp only [ints_len] at *; omega))).symm, ints_get (by first | omega | (simp only [ints_len] at *; omega)), ?_⟩ | refine ⟨_, _, rfl, rfl, Nat.le_refl _, ⟨by (simp only; omega), by omega⟩, ?_⟩ | (refine CallOb.mk [] (Shape_ok n hn d hd) rfl (ImpL.refl _) rfl rfl ?_; rintro _ _ ⟨rfl, rfl⟩) | fail)
  all_goals try (conv => whnf)
  · exact absurd hS (by assumption)
  refine ⟨N, N, hN, hN, Nat.le_refl _, ⟨by simp only; omega, by omega⟩, ?_⟩
  repeat' (conv => whnf
           first | (refine CondOb.mk (fun _ => ?_) (fun _ => ?_) <;> first | (exfalso; omega) | skip) | refine ArOb.fits (by first | omega | (simp only [ints_len] at *; omega)) ?_ | refine LitOb.vec ?_ | refine MakeOb.vec ?_ | refine AllocOb.box ?_ | refine AsgOb.vec ?_ | refine AggOb.mk (by decide +kernel) ?_ | refine ArU.fits (by first | omega | (simp only [ints_len] at *; omega)) ?_ | refine ArB.fits (by first | omega | (simp only [ints_len] at *; omega)) ?_ | refine CutOb.split ?_ | refine And.intro (And.intro (by (simp only [List.length_append, List.length_take, List.length_drop, List.length_cons, List.length_nil, ints_len, List.length_replicate, lnl, fll, stl]; omega)) (by (simp only [List.length_append, List.length_take, List.length_drop, List.length_cons, List.length_nil, ints_len, List.length_replicate, lnl, fll, stl]; omega))) ?_ | refine ⟨_, _, rfl, ints_get (by first | omega | (simp only [ints_len] at *; omega)), ?_⟩ | refine ⟨_, _, (Int.toNat_of_nonneg (by first | omega | (simp only [ints_len] at *; omega))).symm, ints_get (by first | omega | (simp only [ints_len] at *; omega)), ?_⟩ | fail)
  all_goals try (conv => whnf)
  refine .mk [] ?_
  refine LoopOb.mk (Y := List C3) (st := fun cs => ⟨[(33, i64 cs.length), (32, i64 (List.replicate N ([.nil, i64 0, i64 0] : List SV)).length), (8, .vec 1), (3, .ptr 0 0), (1, .psl 1 (dls d)), (2, i64 l)], [.box [.psl 1 (strs n.nm), .psl 5 (lns n.ln), .psl 8 (fls n.fl)], .vec 3 (cvx cs N)]⟩)
    (inv := fun cs => cs.length ≤ N ∧ ∀ c, c < cs.length → J c (cs.getD c ([], 0, 0))) (fun cs => N - cs.length) [] [0, 2] ⟨by simp, by simp⟩ (by (refine Le.mk (by kernel_rfl) ?_ ?_ <;> repeat' (first | exact True.intro | refine And.intro ?_ ?_ | exact Imp.refl _ | exact Imp.any _ | exact Imp.num (by first | omega | simp only [ints_len]) | exact rfl | exact Imp.bl (by simp)))) ?_
  rintro cs ⟨hc, hJ⟩
  have hrl : (List.replicate N ([.nil, i64 0, i64 0] : List SV)).length = N := List.length_replicate
  have hxl := cvx_len hc
  repeat' (conv => whnf
           first | refine ArOb.fits (by first | omega | (simp only [ints_len] at *; omega)) ?_ | refine LitOb.vec ?_ | refine MakeOb.vec ?_ | refine AllocOb.box ?_ | refine AsgOb.vec ?_ | refine AggOb.mk (by decide +kernel) ?_ | refine ArU.fits (by first | omega | (simp only [ints_len] at *; omega)) ?_ | refine ArB.fits (by first | omega | (simp only [ints_len] at *; omega)) ?_ | refine CutOb.split ?_ | refine Gh.mk [] ?_ | refine And.intro (And.intro (by (simp only [List.length_append, List.length_take, List.length_drop, List.length_cons, List.length_nil, ints_len, List.length_replicate, lnl, fll, stl]; omega)) (by (simp only [List.length_append, List.length_take, List.length_drop, List.length_cons, List.length_nil, ints_len, List.length_replicate, lnl, fll, stl]; omega))) ?_ | refine ⟨_, _, rfl, ints_get (by first | omega | (simp only [ints_len] at *; omega)), ?_⟩ | refine ⟨_, _, (Int.toNat_of_nonneg (by first | omega | (simp only [ints_len] at *; omega))).symm, ints_get (by first | omega | (simp only [ints_len] at *; omega)), ?_⟩ | fail)
  all_goals try (conv => whnf)
  refine CondOb.mk (fun hlt => ?_) (fun hlt => ?_)
  · have hcl2 : cs.length < N := by omega
    have cC := hcl cs.length hcl2
    repeat' (conv => whnf
             first | refine AsgOb.nil ?_ | (refine CondOb.mk (fun _ => ?_) (fun _ => ?_) <;> first | (exfalso; omega) | skip) | refine ArOb.fits (by first | omega | (simp only [ints_len] at *; omega)) ?_ | refine LitOb.vec ?_ | refine MakeOb.vec ?_ | refine AllocOb.box ?_ | refine AsgOb.vec ?_ | refine AggOb.mk (by decide +kernel) ?_ | refine ArU.fits (by first | omega | (simp only [ints_len] at *; omega)) ?_ | refine ArB.fits (by first | omega | (simp only [ints_len] at *; omega)) ?_ | refine CutOb.split ?_ | refine And.intro (And.intro (by (simp only [List.length_append, List.length_take, List.length_drop, List.length_cons, List.length_nil, ints_len, List.length_replicate, lnl, fll, stl]; omega)) (by (simp only [List.length_append, List.length_take, List.length_drop, List.length_cons, List.length_nil, ints_len, List.length_replicate, lnl, fll, stl]; omega))) ?_ | refine ⟨_, _, rfl, ints_get (by first | omega | (simp only [ints_len] at *; omega)), ?_⟩ | refine ⟨_, _, (Int.toNat_of_nonneg (by first | omega | (simp only [ints_len] at *; omega))).symm, ints_get (by first | omega | (simp only [ints_len] at *; omega)), ?_⟩ | (refine Gh.mk [] ?_; (conv => whnf); refine CallOb.mk [] cC rfl (ImpL.refl _) rfl rfl ?_; rintro _ _ ⟨⟨b, e⟩, hb, rfl, rfl⟩; dsimp only at hb ⊢) | refine ⟨cs.length, rfl, by omega, ?_⟩ | refine ⟨_, cvx_get hcl2, ?_⟩ | fail)
    all_goals try (conv => whnf)
    · refine .mk [.fa] ?_
      repeat' (conv => whnf
               first | (refine CondOb.mk (fun _ => ?_) (fun _ => ?_) <;> first | (exfalso; omega) | skip) | refine ArOb.fits (by first | omega | (simp only [ints_len] at *; omega)) ?_ | refine LitOb.vec ?_ | refine MakeOb.vec ?_ | refine AllocOb.box ?_ | refine AsgOb.vec ?_ | refine AggOb.mk (by decide +kernel) ?_ | refine ArU.fits (by first | omega | (simp only [ints_len] at *; omega)) ?_ | refine ArB.fits (by first | omega | (simp only [ints_len] at *; omega)) ?_ | refine CutOb.split ?_ | refine Gh.mk [] ?_ | refine And.intro (And.intro (by (simp only [List.length_append, List.length_take, List.length_drop, List.length_cons, List.length_nil, ints_len, List.length_replicate, lnl, fll, stl]; omega)) (by (simp only [List.length_append, List.length_take, List.length_drop, List.length_cons, List.length_nil, ints_len, List.length_replicate, lnl, fll, stl]; omega))) ?_ | refine ⟨_, _, rfl, ints_get (by first | omega | (simp only [ints_len] at *; omega)), ?_⟩ | refine ⟨_, _, (Int.toNat_of_nonneg (by first | omega | (simp only [ints_len] at *; omega))).symm, ints_get (by first | omega | (simp only [ints_len] at *; omega)), ?_⟩ | fail)
      all_goals try (conv => whnf)
      exact ⟨([], e), fun h => absurd h (by assumption), rfl, Imp.tup ⟨Imp.nil _, Imp.refl _, trivial⟩⟩
    · have hs := cvx_set hcl2 b
      refine .mk [] ?_
      exact ⟨cs ++ [b], [0, 1], ⟨by rw [List.length_append, List.length_singleton]; omega, snoc_all hJ (hb (by omega))⟩, by rw [List.length_append, List.length_singleton]; omega, by rw [← hs, List.length_append, List.length_singleton]; (refine Le.mk (by kernel_rfl) ?_ ?_ <;> repeat' (first | exact True.intro | refine And.intro ?_ ?_ | exact Imp.refl _ | exact Imp.any _ | exact Imp.num (by first | omega | simp only [ints_len]) | exact rfl | exact Imp.bl (by simp)))⟩
  · have e : cs.length = N := by omega
    have hx : cvx cs N = cs.map cvw := by simp [cvx, e]
    rw [hx]
    repeat' (conv => whnf
             first | (refine CondOb.mk (fun _ => ?_) (fun _ => ?_) <;> first | (exfalso; omega) | skip) | refine ArOb.fits (by first | omega | (simp only [ints_len] at *; omega)) ?_ | refine LitOb.vec ?_ | refine MakeOb.vec ?_ | refine AllocOb.box ?_ | refine AsgOb.vec ?_ | refine AggOb.mk (by decide +kernel) ?_ | refine ArU.fits (by first | omega | (simp only [ints_len] at *; omega)) ?_ | refine ArB.fits (by first | omega | (simp only [ints_len] at *; omega)) ?_ | refine CutOb.split ?_ | refine And.intro (And.intro (by (simp only [List.length_append, List.length_take, List.length_drop, List.length_cons, List.length_nil, ints_len, List.length_replicate, lnl, fll, stl]; omega)) (by (simp only [List.length_append, List.length_take, List.length_drop, List.length_cons, List.length_nil, ints_len, List.length_replicate, lnl, fll, stl]; omega))) ?_ | refine ⟨_, _, rfl, ints_get (by first | omega | (simp only [ints_len] at *; omega)), ?_⟩ | refine ⟨_, _, (Int.toNat_of_nonneg (by first | omega | (simp only [ints_len] at *; omega))).symm, ints_get (by first | omega | (simp only [ints_len] at *; omega)), ?_⟩ | fail)
    all_goals try (conv => whnf)
    refine .mk [.fa] ?_
    repeat' (conv => whnf
             first | (refine CondOb.mk (fun _ => ?_) (fun _ => ?_) <;> first | (exfalso; omega) | skip) | refine ArOb.fits (by first | omega | (simp only [ints_len] at *; omega)) ?_ | refine LitOb.vec ?_ | refine MakeOb.vec ?_ | refine AllocOb.box ?_ | refine AsgOb.vec ?_ | refine AggOb.mk (by decide +kernel) ?_ | refine ArU.fits (by first | omega | (simp only [ints_len] at *; omega)) ?_ | refine ArB.fits (by first | omega | (simp only [ints_len] at *; omega)) ?_ | refine CutOb.split ?_ | refine Gh.mk [] ?_ | refine And.intro (And.intro (by (simp only [List.length_append, List.length_take, List.length_drop, List.length_cons, List.length_nil, ints_len, List.length_replicate, lnl, fll, stl]; omega)) (by (simp only [List.length_append, List.length_take, List.length_drop, List.length_cons, List.length_nil, ints_len, List.length_replicate, lnl, fll, stl]; omega))) ?_ | refine ⟨_, _, rfl, ints_get (by first | omega | (simp only [ints_len] at *; omega)), ?_⟩ | refine ⟨_, _, (Int.toNat_of_nonneg (by first | omega | (simp only [ints_len] at *; omega))).symm, ints_get (by first | omega | (simp only [ints_len] at *; omega)), ?_⟩ | fail)
    all_goals try (conv => whnf)
    exact ⟨(cs, 0), fun _ => ⟨e, fun c h => hJ c (by omega)⟩, rfl, Imp.refl _⟩
end Go.Proofs.Ytnlmmjmcackgjaa
