/-
  A text of the proofs of this seat: lemmas that the statements' proofs use; it states nothing of the program by itself beyond the contracts that its theorems bear. Conditions: those that stand in each theorem. Its short name: X6.
-/
import Derived.Test.YtgbmiacpjmchdaaGreatY5
import Derived.Test.YtgbmiacpjmchdaaGreatX5
import Derived.Test.YtgbmiacpjmchdaaGreatPl
import Derived.Test.YtgbmiacpjmchdaaGreatKs
import Derived.Test.YtgbmiacpjmchdaaGreatSxC
set_option linter.unusedVariables false
set_option linter.unusedSimpArgs false
namespace Go.Proofs.YtgbmiacpjmchdaaGreat
open Go.Sx Go.Np Go.Cv Go.Tp Go.Fq
set_option maxRecDepth 4000
set_option maxHeartbeats 2000000
theorem ch_nl : NL chN := by
  refine ⟨by decide, by decide, by decide, fun s hs => ?_, fun l hl => ?_, fun f hf => ?_⟩
  · simp only [chN, List.mem_cons, List.not_mem_nil, or_false] at hs
    rcases hs with rfl | rfl | rfl <;> decide
  · simp only [chN, List.mem_cons, List.not_mem_nil, or_false] at hl
    rcases hl with rfl | rfl | rfl <;> decide
  · simp only [chN, List.mem_cons, List.not_mem_nil, or_false] at hf
    subst hf; decide
theorem ch_dl : DL chD := by
  refine ⟨by decide, fun i => ?_⟩
  by_cases h : i < 3
  · rcases (show i = 0 ∨ i = 1 ∨ i = 2 by omega) with rfl | rfl | rfl <;> decide
  · rw [List.getD_eq_getElem?_getD, List.getElem?_eq_none (by show 3 ≤ i; omega)]; decide
theorem ch_rn : RN chN := ⟨ch_chk, fun i hi => by
  have : i = 0 := by have : chN.fl.length = 1 := rfl; omega
  subst this
  decide +kernel⟩
theorem ch_used : ∀ i : Nat, i < 3 → usedP chN i = (10, 1, 0) := by
  intro i hi
  obtain ⟨h1, _⟩ := used_fr ch_rn (l := i) (by show i < 3; omega)
  rw [h1]
  rcases (show i = 0 ∨ i = 1 ∨ i = 2 by omega) with rfl | rfl | rfl <;> decide +kernel
theorem ch_over : overP chN = ([], 0) := by
  obtain ⟨h1, h2⟩ := over_fr ch_rn 3 (by decide)
  have hO : overP chN = ovS chN 3 := by unfold overP; rw [if_neg (by have := ch_chk; omega)]; rfl
  rw [hO]
  have he : (ovS chN 3).1 = [] := by
    rw [List.eq_nil_iff_forall_not_mem]
    intro x hx
    obtain ⟨j, hj, _, hc⟩ := (h2 x).1 hx
    rw [ch_used j hj] at hc
    rcases (show j = 0 ∨ j = 1 ∨ j = 2 by omega) with rfl | rfl | rfl <;> revert hc <;> decide
  exact Prod.ext he h1
abbrev chv0 : List SV := [i64 1, i64 10, i64 1, .nil, .nil]
abbrev chv : List SV := [.str ⟨#[102]⟩, .ful 1 [[i64 0], [i64 1], [i64 2]], i64 0, i64 1, i64 4, .psl 1 (ints (stv 100 10)), i64 10, i64 100]
theorem aP_X6 {A B K : Prop} (k : K) (a : A := by (simp only [zA, zT, zD, zC, zN, ints_len, zR, lnl, fll, stl]; omega)) (b : B := by (simp only [zA, zT, zD, zC, zN, ints_len, zR, lnl, fll, stl]; omega)) : (A ∧ B) ∧ K := ⟨⟨a, b⟩, k⟩
theorem chain_ok : Ctr Tryz.prog 27 [] [] (fun r o => o = [] ∧ r = ntv chN) := by
  refine Ctr.imp ?_
  refine fn_intro (E := env 0) tys_ok rfl rfl rfl Tryz.func27 (by kernel_rfl) rfl (by kernel_rfl) ?_
  have cS := Stair_ok 100 10 100 (by decide)
  (repeat' (conv => whnf); first | (refine aC (fun _ => ?_) (fun _ => ?_) <;> try (exfalso; omega)) | refine aS ?_ | refine aG ?_ | refine aD ?_ | refine aH ?_ | refine aP_X6 ?_ | refine aI ?_ | refine aJ ?_ | fail); all_goals try (conv => whnf)
  refine DrawOb.cut [] (.qs [1, 2, 3, 6] (.l 0 [3, 2, 1] (.l 4 [] (.l 5 [] (.l 7 [] (.qs [8] (.l 9 [] (.qs [10] (.l 11 [] .nil .no)) .no)) .no) (.l 7 [] (.l 5 [] (.qs [8] (.l 9 [] (.qs [10] (.l 11 [] .nil .no)) .no)) .no) .no)) (.l 5 [3, 2, 1] (.l 4 [] (.l 7 [] (.qs [8] (.l 9 [] (.qs [10] (.l 11 [] .nil .no)) .no)) .no) (.l 7 [3, 2, 1] (.qs [8] (.l 4 [] (.l 9 [] (.qs [10] (.l 11 [] .nil .no)) .no) (.l 9 [3, 2, 1] (.l 4 [] (.qs [10] (.l 11 [] .nil .no)) .no) .no))) .no)) (.l 7 [3, 2, 1] (.l 4 [] (.l 5 [] (.qs [8] (.l 9 [] (.qs [10] (.l 11 [] .nil .no)) .no)) .no) (.l 5 [3, 2, 1] (.qs [8] (.l 4 [] (.l 9 [] (.qs [10] (.l 11 [] .nil .no)) .no) (.l 9 [3, 2, 1] (.l 4 [] (.qs [10] (.l 11 [] .nil .no)) .no) .no))) .no)) .no))) (.l 4 [] (.l 0 [] (.l 5 [] (.l 7 [] (.qs [8] (.l 9 [] (.qs [10] (.l 11 [] .nil .no)) .no)) .no) (.l 7 [] (.l 5 [] (.qs [8] (.l 9 [] (.qs [10] (.l 11 [] .nil .no)) .no)) .no) .no)) (.l 5 [] (.l 0 [] (.l 7 [] (.qs [8] (.l 9 [] (.qs [10] (.l 11 [] .nil .no)) .no)) .no) (.l 7 [] (.qs [8] (.l 0 [] (.l 9 [] (.qs [10] (.l 11 [] .nil .no)) .no) (.l 9 [] (.l 0 [] (.qs [10] (.l 11 [] .nil .no)) .no) .no))) .no)) (.l 7 [] (.l 0 [] (.l 5 [] (.qs [8] (.l 9 [] (.qs [10] (.l 11 [] .nil .no)) .no)) .no) (.l 5 [] (.qs [8] (.l 0 [] (.l 9 [] (.qs [10] (.l 11 [] .nil .no)) .no) (.l 9 [] (.l 0 [] (.qs [10] (.l 11 [] .nil .no)) .no) .no))) .no)) .no))) (.l 5 [3, 2, 1] (.l 0 [3, 2, 1] (.l 4 [] (.l 7 [] (.qs [8] (.l 9 [] (.qs [10] (.l 11 [] .nil .no)) .no)) .no) (.l 7 [3, 2, 1] (.qs [8] (.l 4 [] (.l 9 [] (.qs [10] (.l 11 [] .nil .no)) .no) (.l 9 [3, 2, 1] (.l 4 [] (.qs [10] (.l 11 [] .nil .no)) .no) .no))) .no)) (.l 4 [] (.l 0 [] (.l 7 [] (.qs [8] (.l 9 [] (.qs [10] (.l 11 [] .nil .no)) .no)) .no) (.l 7 [] (.qs [8] (.l 0 [] (.l 9 [] (.qs [10] (.l 11 [] .nil .no)) .no) (.l 9 [] (.l 0 [] (.qs [10] (.l 11 [] .nil .no)) .no) .no))) .no)) (.l 7 [3, 2, 1] (.qs [8] (.l 0 [3, 2, 1] (.l 4 [] (.l 9 [] (.qs [10] (.l 11 [] .nil .no)) .no) (.l 9 [3, 2, 1] (.l 4 [] (.qs [10] (.l 11 [] .nil .no)) .no) .no)) (.l 4 [] (.l 0 [] (.l 9 [] (.qs [10] (.l 11 [] .nil .no)) .no) (.l 9 [] (.l 0 [] (.qs [10] (.l 11 [] .nil .no)) .no) .no)) (.l 9 [3, 2, 1] (.l 0 [3, 2, 1] (.l 4 [] (.qs [10] (.l 11 [] .nil .no)) .no) (.l 4 [] (.l 0 [] (.qs [10] (.l 11 [] .nil .no)) .no) .no)) .no)))) .no))) (.l 7 [3, 2, 1] (.l 0 [3, 2, 1] (.l 4 [] (.l 5 [] (.qs [8] (.l 9 [] (.qs [10] (.l 11 [] .nil .no)) .no)) .no) (.l 5 [3, 2, 1] (.qs [8] (.l 4 [] (.l 9 [] (.qs [10] (.l 11 [] .nil .no)) .no) (.l 9 [3, 2, 1] (.l 4 [] (.qs [10] (.l 11 [] .nil .no)) .no) .no))) .no)) (.l 4 [] (.l 0 [] (.l 5 [] (.qs [8] (.l 9 [] (.qs [10] (.l 11 [] .nil .no)) .no)) .no) (.l 5 [] (.qs [8] (.l 0 [] (.l 9 [] (.qs [10] (.l 11 [] .nil .no)) .no) (.l 9 [] (.l 0 [] (.qs [10] (.l 11 [] .nil .no)) .no) .no))) .no)) (.l 5 [3, 2, 1] (.qs [8] (.l 0 [3, 2, 1] (.l 4 [] (.l 9 [] (.qs [10] (.l 11 [] .nil .no)) .no) (.l 9 [3, 2, 1] (.l 4 [] (.qs [10] (.l 11 [] .nil .no)) .no) .no)) (.l 4 [] (.l 0 [] (.l 9 [] (.qs [10] (.l 11 [] .nil .no)) .no) (.l 9 [] (.l 0 [] (.qs [10] (.l 11 [] .nil .no)) .no) .no)) (.l 9 [3, 2, 1] (.l 0 [3, 2, 1] (.l 4 [] (.qs [10] (.l 11 [] .nil .no)) .no) (.l 4 [] (.l 0 [] (.qs [10] (.l 11 [] .nil .no)) .no) .no)) .no)))) .no))) .no))))) (Y := Unit) (st := fun _ => ⟨[(0, .ptr 0 0)], [.box [.ful 1 [[.str ⟨#[97]⟩], [.str ⟨#[98]⟩], [.str ⟨#[99]⟩]], .ful 5 [chv0, chv0, chv0], .ful 8 [chv]]]⟩) (inv := fun _ => True) (by decide +kernel) ?_ ?_
  · (repeat' (conv => whnf); first | refine LitOb.ful ?_ | (refine aC (fun _ => ?_) (fun _ => ?_) <;> try (exfalso; omega)) | refine aS ?_ | refine aG ?_ | refine aD ?_ | refine aH ?_ | refine aP_X6 ?_ | refine aI ?_ | refine aJ ?_ | refine aW (.qs [1, 2, 3, 6] (.l 0 [3, 2, 1] (.l 4 [] (.l 5 [] (.l 7 [] (.qs [8] (.l 9 [] (.qs [10] (.l 11 [] .nil .no)) .no)) .no) (.l 7 [] (.l 5 [] (.qs [8] (.l 9 [] (.qs [10] (.l 11 [] .nil .no)) .no)) .no) .no)) (.l 5 [3, 2, 1] (.l 4 [] (.l 7 [] (.qs [8] (.l 9 [] (.qs [10] (.l 11 [] .nil .no)) .no)) .no) (.l 7 [3, 2, 1] (.qs [8] (.l 4 [] (.l 9 [] (.qs [10] (.l 11 [] .nil .no)) .no) (.l 9 [3, 2, 1] (.l 4 [] (.qs [10] (.l 11 [] .nil .no)) .no) .no))) .no)) (.l 7 [3, 2, 1] (.l 4 [] (.l 5 [] (.qs [8] (.l 9 [] (.qs [10] (.l 11 [] .nil .no)) .no)) .no) (.l 5 [3, 2, 1] (.qs [8] (.l 4 [] (.l 9 [] (.qs [10] (.l 11 [] .nil .no)) .no) (.l 9 [3, 2, 1] (.l 4 [] (.qs [10] (.l 11 [] .nil .no)) .no) .no))) .no)) .no))) (.l 4 [] (.l 0 [] (.l 5 [] (.l 7 [] (.qs [8] (.l 9 [] (.qs [10] (.l 11 [] .nil .no)) .no)) .no) (.l 7 [] (.l 5 [] (.qs [8] (.l 9 [] (.qs [10] (.l 11 [] .nil .no)) .no)) .no) .no)) (.l 5 [] (.l 0 [] (.l 7 [] (.qs [8] (.l 9 [] (.qs [10] (.l 11 [] .nil .no)) .no)) .no) (.l 7 [] (.qs [8] (.l 0 [] (.l 9 [] (.qs [10] (.l 11 [] .nil .no)) .no) (.l 9 [] (.l 0 [] (.qs [10] (.l 11 [] .nil .no)) .no) .no))) .no)) (.l 7 [] (.l 0 [] (.l 5 [] (.qs [8] (.l 9 [] (.qs [10] (.l 11 [] .nil .no)) .no)) .no) (.l 5 [] (.qs [8] (.l 0 [] (.l 9 [] (.qs [10] (.l 11 [] .nil .no)) .no) (.l 9 [] (.l 0 [] (.qs [10] (.l 11 [] .nil .no)) .no) .no))) .no)) .no))) (.l 5 [3, 2, 1] (.l 0 [3, 2, 1] (.l 4 [] (.l 7 [] (.qs [8] (.l 9 [] (.qs [10] (.l 11 [] .nil .no)) .no)) .no) (.l 7 [3, 2, 1] (.qs [8] (.l 4 [] (.l 9 [] (.qs [10] (.l 11 [] .nil .no)) .no) (.l 9 [3, 2, 1] (.l 4 [] (.qs [10] (.l 11 [] .nil .no)) .no) .no))) .no)) (.l 4 [] (.l 0 [] (.l 7 [] (.qs [8] (.l 9 [] (.qs [10] (.l 11 [] .nil .no)) .no)) .no) (.l 7 [] (.qs [8] (.l 0 [] (.l 9 [] (.qs [10] (.l 11 [] .nil .no)) .no) (.l 9 [] (.l 0 [] (.qs [10] (.l 11 [] .nil .no)) .no) .no))) .no)) (.l 7 [3, 2, 1] (.qs [8] (.l 0 [3, 2, 1] (.l 4 [] (.l 9 [] (.qs [10] (.l 11 [] .nil .no)) .no) (.l 9 [3, 2, 1] (.l 4 [] (.qs [10] (.l 11 [] .nil .no)) .no) .no)) (.l 4 [] (.l 0 [] (.l 9 [] (.qs [10] (.l 11 [] .nil .no)) .no) (.l 9 [] (.l 0 [] (.qs [10] (.l 11 [] .nil .no)) .no) .no)) (.l 9 [3, 2, 1] (.l 0 [3, 2, 1] (.l 4 [] (.qs [10] (.l 11 [] .nil .no)) .no) (.l 4 [] (.l 0 [] (.qs [10] (.l 11 [] .nil .no)) .no) .no)) .no)))) .no))) (.l 7 [3, 2, 1] (.l 0 [3, 2, 1] (.l 4 [] (.l 5 [] (.qs [8] (.l 9 [] (.qs [10] (.l 11 [] .nil .no)) .no)) .no) (.l 5 [3, 2, 1] (.qs [8] (.l 4 [] (.l 9 [] (.qs [10] (.l 11 [] .nil .no)) .no) (.l 9 [3, 2, 1] (.l 4 [] (.qs [10] (.l 11 [] .nil .no)) .no) .no))) .no)) (.l 4 [] (.l 0 [] (.l 5 [] (.qs [8] (.l 9 [] (.qs [10] (.l 11 [] .nil .no)) .no)) .no) (.l 5 [] (.qs [8] (.l 0 [] (.l 9 [] (.qs [10] (.l 11 [] .nil .no)) .no) (.l 9 [] (.l 0 [] (.qs [10] (.l 11 [] .nil .no)) .no) .no))) .no)) (.l 5 [3, 2, 1] (.qs [8] (.l 0 [3, 2, 1] (.l 4 [] (.l 9 [] (.qs [10] (.l 11 [] .nil .no)) .no) (.l 9 [3, 2, 1] (.l 4 [] (.qs [10] (.l 11 [] .nil .no)) .no) .no)) (.l 4 [] (.l 0 [] (.l 9 [] (.qs [10] (.l 11 [] .nil .no)) .no) (.l 9 [] (.l 0 [] (.qs [10] (.l 11 [] .nil .no)) .no) .no)) (.l 9 [3, 2, 1] (.l 0 [3, 2, 1] (.l 4 [] (.qs [10] (.l 11 [] .nil .no)) .no) (.l 4 [] (.l 0 [] (.qs [10] (.l 11 [] .nil .no)) .no) .no)) .no)))) .no))) .no))))) ?_ | (refine aK [] cS ?_) | refine And.intro ?_ ?_ | fail); all_goals try (conv => whnf)
    all_goals exact ⟨(), [0], trivial, by (exact aL)⟩
  rintro _ _
  (repeat' (conv => whnf); first | (refine aC (fun _ => ?_) (fun _ => ?_) <;> try (exfalso; omega)) | refine aS ?_ | refine aG ?_ | refine aD ?_ | refine aH ?_ | refine aP_X6 ?_ | refine aI ?_ | refine aJ ?_ | fail); all_goals try (conv => whnf)
  have h0 : ImpL chv0 (lnv chL) := ⟨Imp.refl _, Imp.refl _, Imp.refl _, Imp.nil _, Imp.nil _, trivial⟩
  have h1 : ImpL chv (flv chF) := ⟨Imp.refl _, Imp.fulp rfl, Imp.refl _, Imp.refl _, Imp.refl _, Imp.refl _, Imp.refl _, Imp.refl _, trivial⟩
  exact ⟨rfl, Imp.agg ⟨Imp.fulp rfl, Imp.fulr ⟨h0, h0, h0, trivial⟩, Imp.fulr ⟨h1, trivial⟩, trivial⟩⟩
theorem sane_ok : Ctr Tryz.prog 4 [] [] (fun r o => o = [] ∧ r = .bl true) := by
  refine Ctr.imp ?_
  refine fn_intro (E := env 0) tys_ok rfl rfl rfl Tryz.func4 (by kernel_rfl) rfl (by kernel_rfl) ?_
  have cA : Ctr Tryz.prog 15 [ntv chN, .psl 1 (dls chD), i64 0, i64 1] [] (fun r o => ∃ c : C3, (VC c ∧ cv c 7 = 100 ∧ cv c 8 = 200) ∧ o = [] ∧ r = .tup [crv c.1 c.2.1 c.2.2, i64 0]) :=
    (lAt_ok chN ch_nl chD ch_dl 0 1).mono fun r o ⟨x, h1, h2, h3⟩ => by
      obtain ⟨c, g1, g2, g3, rfl⟩ := ch_at h1
      exact ⟨c, ⟨g1, g2, g3⟩, h2, h3⟩
  have cB : Ctr Tryz.prog 13 [ntv chN, .psl 1 (dls chD), i64 0, i64 2] [] (fun r o => o = [] ∧ r = .tup [i64 4, .bl true]) := by
    have := Before_ok chN ch_nl chD ch_dl 0 2
    rw [befP_t ⟨ch_shape, ch_hop.2⟩] at this
    rw [show bef chD (chN.fl.getD (0 : Int).toNat fl0) (2 : Int).toNat = some 4 from ch_bef.2] at this
    exact this
  have cU : Ctr Tryz.prog 22 [ntv chN, i64 0] [] (fun r o => o = [] ∧ r = res (10, 1, 0)) := by
    have := Used_ok chN ch_nl (by decide) 0
    rw [show usedP chN 0 = (10, 1, 0) from ch_used 0 (by decide)] at this
    exact this
  have cO : Ctr Tryz.prog 24 [ntv chN] [] (fun r o => o = [] ∧ r = .tup [.psl 1 (ints []), i64 0]) := by
    have := Over_ok chN ch_nl (by decide)
    rw [ch_over] at this
    exact this
  have cS := Shape_ok chN ch_nl chD ch_dl
  have hS := ch_shape
  have cC := chain_ok
  dsimp only [res] at cU
  generalize ShapeP chN chD = X at *
  generalize chN = n at *
  have hi : ImpR [[.ful 1 [[i64 3]]], [.ful 1 [[i64 1]]], [.ful 1 [[i64 0]]]] (dls chD) := ⟨⟨Imp.fulp rfl, trivial⟩, ⟨Imp.fulp rfl, trivial⟩, ⟨Imp.fulp rfl, trivial⟩, trivial⟩
  (repeat' (conv => whnf); first | refine LitOb.ful ?_ | (refine aC (fun _ => ?_) (fun _ => ?_) <;> try (exfalso; omega)) | refine aS ?_ | refine aG ?_ | refine aD ?_ | refine aH ?_ | refine aP_X6 ?_ | refine aI ?_ | refine aJ ?_ | refine And.intro rfl ?_ | (refine aK [] cC ?_) | (refine CallOb.mk [] cA rfl ⟨Imp.refl _, Imp.fulr hi, Imp.refl _, Imp.refl _, trivial⟩ rfl rfl ?_; rintro _ _ ⟨c, ⟨hv, c7, c8⟩, rfl, rfl⟩) | (refine CallOb.mk [] cB rfl ⟨Imp.refl _, Imp.fulr hi, Imp.refl _, Imp.refl _, trivial⟩ rfl rfl ?_; rintro _ _ ⟨rfl, rfl⟩) | (refine aK [] cU ?_) | (refine aK [] cO ?_) | (refine aK [] (kAt_ok c.1 c.2.1 c.2.2 hv 8 (by decide)) ?_) | (refine aK [] (kAt_ok c.1 c.2.1 c.2.2 hv 7 (by decide)) ?_) | (refine CallOb.mk [] cS rfl ⟨Imp.refl _, Imp.fulr hi, trivial⟩ rfl rfl ?_; rintro _ _ ⟨rfl, rfl⟩) | fail); all_goals try (conv => whnf)
  all_goals first
    | exact Imp.bpl ⟨fun _ => rfl, fun _ => rfl⟩
    | (exfalso; unfold cv at c7 c8; first | contradiction | omega | (simp [conj] at *; done))
    | trace_state
end Go.Proofs.YtgbmiacpjmchdaaGreat
