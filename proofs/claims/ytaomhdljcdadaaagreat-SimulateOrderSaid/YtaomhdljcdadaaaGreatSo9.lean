/-
  A text of the proofs of this seat: lemmas that the statements' proofs use; it states nothing of the program by itself beyond the contracts that its theorems bear. Conditions: those that stand in each theorem. Its short name: So9 So10.
-/
import Derived.Test.YtaomhdljcdadaaaGreatSo8
import Derived.Test.YtaomhdljcdadaaaGreatMv
import Derived.Test.YtaomhdljcdadaaaGreatKn
import Derived.Test.YtaomhdljcdadaaaGreatSxC
set_option linter.unusedVariables false
set_option linter.unusedSimpArgs false
section
namespace Go.Proofs.YtaomhdljcdadaaaGreat
open Go.Sx Go.Pk Go.Mc Go.Np
set_option maxRecDepth 4000
set_option maxHeartbeats 2000000
/-! the example of the chapter -/
theorem tw_nl : NL twN := by
  refine ⟨by decide, by decide, by decide, fun s hs => ?_, fun l hl => ?_, fun f hf => ?_⟩
  · simp only [twN, List.mem_cons, List.not_mem_nil, or_false] at hs
    rcases hs with rfl | rfl <;> decide
  · simp only [twN, List.mem_cons, List.not_mem_nil, or_false] at hl
    rcases hl with rfl | rfl <;> decide
  · simp only [twN, List.mem_cons, List.not_mem_nil, or_false] at hf
    subst hf; decide
abbrev twv0 : List SV := [i64 1, i64 10, i64 1, .nil, .nil]
abbrev twv : List SV := [.str ⟨#[102]⟩, .ful 1 [[i64 0], [i64 1]], i64 0, i64 1, i64 50, .psl 1 (ints (stv 100 1)), i64 1, i64 1]
theorem aP_So9 {A B K : Prop} (k : K) (a : A := by (simp only [zA, zT, zD, zC, zN, ints_len, zR, Go.Cv.vals_len]; omega)) (b : B := by (simp only [zA, zT, zD, zC, zN, ints_len, zR, Go.Cv.vals_len]; omega)) : (A ∧ B) ∧ K := ⟨⟨a, b⟩, k⟩
theorem two_ok : Ctr Tryz.prog 84 [] [] (fun r o => o = [] ∧ r = ntv twN) := by
  refine Ctr.imp ?_
  refine fn_intro (E := env 0) tys_ok rfl rfl rfl Tryz.func84 (by kernel_rfl) rfl (by kernel_rfl) ?_
  have cS := Stair_ok 100 1 1 (by decide)
  (repeat' (conv => whnf); first | (refine aC (fun _ => ?_) (fun _ => ?_) <;> try (exfalso; omega)) | refine aS ?_ | refine aG ?_ | refine aD ?_ | refine aH ?_ | refine aP_So9 ?_ | refine aI ?_ | refine aJ ?_ | fail); all_goals try (conv => whnf)
  refine DrawOb.cut [] (.qs [1, 2, 5] (.l 0 [2, 1] (.l 3 [] (.l 4 [] (.l 6 [] (.qs [7] (.l 8 [] (.qs [9] (.l 10 [] .nil .no)) .no)) .no) (.l 6 [] (.l 4 [] (.qs [7] (.l 8 [] (.qs [9] (.l 10 [] .nil .no)) .no)) .no) .no)) (.l 4 [2, 1] (.l 3 [] (.l 6 [] (.qs [7] (.l 8 [] (.qs [9] (.l 10 [] .nil .no)) .no)) .no) (.l 6 [2, 1] (.qs [7] (.l 3 [] (.l 8 [] (.qs [9] (.l 10 [] .nil .no)) .no) (.l 8 [2, 1] (.l 3 [] (.qs [9] (.l 10 [] .nil .no)) .no) .no))) .no)) (.l 6 [2, 1] (.l 3 [] (.l 4 [] (.qs [7] (.l 8 [] (.qs [9] (.l 10 [] .nil .no)) .no)) .no) (.l 4 [2, 1] (.qs [7] (.l 3 [] (.l 8 [] (.qs [9] (.l 10 [] .nil .no)) .no) (.l 8 [2, 1] (.l 3 [] (.qs [9] (.l 10 [] .nil .no)) .no) .no))) .no)) .no))) (.l 3 [] (.l 0 [] (.l 4 [] (.l 6 [] (.qs [7] (.l 8 [] (.qs [9] (.l 10 [] .nil .no)) .no)) .no) (.l 6 [] (.l 4 [] (.qs [7] (.l 8 [] (.qs [9] (.l 10 [] .nil .no)) .no)) .no) .no)) (.l 4 [] (.l 0 [] (.l 6 [] (.qs [7] (.l 8 [] (.qs [9] (.l 10 [] .nil .no)) .no)) .no) (.l 6 [] (.qs [7] (.l 0 [] (.l 8 [] (.qs [9] (.l 10 [] .nil .no)) .no) (.l 8 [] (.l 0 [] (.qs [9] (.l 10 [] .nil .no)) .no) .no))) .no)) (.l 6 [] (.l 0 [] (.l 4 [] (.qs [7] (.l 8 [] (.qs [9] (.l 10 [] .nil .no)) .no)) .no) (.l 4 [] (.qs [7] (.l 0 [] (.l 8 [] (.qs [9] (.l 10 [] .nil .no)) .no) (.l 8 [] (.l 0 [] (.qs [9] (.l 10 [] .nil .no)) .no) .no))) .no)) .no))) (.l 4 [2, 1] (.l 0 [2, 1] (.l 3 [] (.l 6 [] (.qs [7] (.l 8 [] (.qs [9] (.l 10 [] .nil .no)) .no)) .no) (.l 6 [2, 1] (.qs [7] (.l 3 [] (.l 8 [] (.qs [9] (.l 10 [] .nil .no)) .no) (.l 8 [2, 1] (.l 3 [] (.qs [9] (.l 10 [] .nil .no)) .no) .no))) .no)) (.l 3 [] (.l 0 [] (.l 6 [] (.qs [7] (.l 8 [] (.qs [9] (.l 10 [] .nil .no)) .no)) .no) (.l 6 [] (.qs [7] (.l 0 [] (.l 8 [] (.qs [9] (.l 10 [] .nil .no)) .no) (.l 8 [] (.l 0 [] (.qs [9] (.l 10 [] .nil .no)) .no) .no))) .no)) (.l 6 [2, 1] (.qs [7] (.l 0 [2, 1] (.l 3 [] (.l 8 [] (.qs [9] (.l 10 [] .nil .no)) .no) (.l 8 [2, 1] (.l 3 [] (.qs [9] (.l 10 [] .nil .no)) .no) .no)) (.l 3 [] (.l 0 [] (.l 8 [] (.qs [9] (.l 10 [] .nil .no)) .no) (.l 8 [] (.l 0 [] (.qs [9] (.l 10 [] .nil .no)) .no) .no)) (.l 8 [2, 1] (.l 0 [2, 1] (.l 3 [] (.qs [9] (.l 10 [] .nil .no)) .no) (.l 3 [] (.l 0 [] (.qs [9] (.l 10 [] .nil .no)) .no) .no)) .no)))) .no))) (.l 6 [2, 1] (.l 0 [2, 1] (.l 3 [] (.l 4 [] (.qs [7] (.l 8 [] (.qs [9] (.l 10 [] .nil .no)) .no)) .no) (.l 4 [2, 1] (.qs [7] (.l 3 [] (.l 8 [] (.qs [9] (.l 10 [] .nil .no)) .no) (.l 8 [2, 1] (.l 3 [] (.qs [9] (.l 10 [] .nil .no)) .no) .no))) .no)) (.l 3 [] (.l 0 [] (.l 4 [] (.qs [7] (.l 8 [] (.qs [9] (.l 10 [] .nil .no)) .no)) .no) (.l 4 [] (.qs [7] (.l 0 [] (.l 8 [] (.qs [9] (.l 10 [] .nil .no)) .no) (.l 8 [] (.l 0 [] (.qs [9] (.l 10 [] .nil .no)) .no) .no))) .no)) (.l 4 [2, 1] (.qs [7] (.l 0 [2, 1] (.l 3 [] (.l 8 [] (.qs [9] (.l 10 [] .nil .no)) .no) (.l 8 [2, 1] (.l 3 [] (.qs [9] (.l 10 [] .nil .no)) .no) .no)) (.l 3 [] (.l 0 [] (.l 8 [] (.qs [9] (.l 10 [] .nil .no)) .no) (.l 8 [] (.l 0 [] (.qs [9] (.l 10 [] .nil .no)) .no) .no)) (.l 8 [2, 1] (.l 0 [2, 1] (.l 3 [] (.qs [9] (.l 10 [] .nil .no)) .no) (.l 3 [] (.l 0 [] (.qs [9] (.l 10 [] .nil .no)) .no) .no)) .no)))) .no))) .no))))) (Y := Unit) (st := fun _ => ⟨[(0, .ptr 0 0)], [.box [.ful 1 [[.str ⟨#[97]⟩], [.str ⟨#[98]⟩]], .ful 5 [twv0, twv0], .ful 8 [twv]]]⟩) (inv := fun _ => True) (by decide +kernel) ?_ ?_
  · (repeat' (conv => whnf); first | refine LitOb.ful ?_ | (refine aC (fun _ => ?_) (fun _ => ?_) <;> try (exfalso; omega)) | refine aS ?_ | refine aG ?_ | refine aD ?_ | refine aH ?_ | refine aP_So9 ?_ | refine aI ?_ | refine aJ ?_ | refine aW (.qs [1, 2, 5] (.l 0 [2, 1] (.l 3 [] (.l 4 [] (.l 6 [] (.qs [7] (.l 8 [] (.qs [9] (.l 10 [] .nil .no)) .no)) .no) (.l 6 [] (.l 4 [] (.qs [7] (.l 8 [] (.qs [9] (.l 10 [] .nil .no)) .no)) .no) .no)) (.l 4 [2, 1] (.l 3 [] (.l 6 [] (.qs [7] (.l 8 [] (.qs [9] (.l 10 [] .nil .no)) .no)) .no) (.l 6 [2, 1] (.qs [7] (.l 3 [] (.l 8 [] (.qs [9] (.l 10 [] .nil .no)) .no) (.l 8 [2, 1] (.l 3 [] (.qs [9] (.l 10 [] .nil .no)) .no) .no))) .no)) (.l 6 [2, 1] (.l 3 [] (.l 4 [] (.qs [7] (.l 8 [] (.qs [9] (.l 10 [] .nil .no)) .no)) .no) (.l 4 [2, 1] (.qs [7] (.l 3 [] (.l 8 [] (.qs [9] (.l 10 [] .nil .no)) .no) (.l 8 [2, 1] (.l 3 [] (.qs [9] (.l 10 [] .nil .no)) .no) .no))) .no)) .no))) (.l 3 [] (.l 0 [] (.l 4 [] (.l 6 [] (.qs [7] (.l 8 [] (.qs [9] (.l 10 [] .nil .no)) .no)) .no) (.l 6 [] (.l 4 [] (.qs [7] (.l 8 [] (.qs [9] (.l 10 [] .nil .no)) .no)) .no) .no)) (.l 4 [] (.l 0 [] (.l 6 [] (.qs [7] (.l 8 [] (.qs [9] (.l 10 [] .nil .no)) .no)) .no) (.l 6 [] (.qs [7] (.l 0 [] (.l 8 [] (.qs [9] (.l 10 [] .nil .no)) .no) (.l 8 [] (.l 0 [] (.qs [9] (.l 10 [] .nil .no)) .no) .no))) .no)) (.l 6 [] (.l 0 [] (.l 4 [] (.qs [7] (.l 8 [] (.qs [9] (.l 10 [] .nil .no)) .no)) .no) (.l 4 [] (.qs [7] (.l 0 [] (.l 8 [] (.qs [9] (.l 10 [] .nil .no)) .no) (.l 8 [] (.l 0 [] (.qs [9] (.l 10 [] .nil .no)) .no) .no))) .no)) .no))) (.l 4 [2, 1] (.l 0 [2, 1] (.l 3 [] (.l 6 [] (.qs [7] (.l 8 [] (.qs [9] (.l 10 [] .nil .no)) .no)) .no) (.l 6 [2, 1] (.qs [7] (.l 3 [] (.l 8 [] (.qs [9] (.l 10 [] .nil .no)) .no) (.l 8 [2, 1] (.l 3 [] (.qs [9] (.l 10 [] .nil .no)) .no) .no))) .no)) (.l 3 [] (.l 0 [] (.l 6 [] (.qs [7] (.l 8 [] (.qs [9] (.l 10 [] .nil .no)) .no)) .no) (.l 6 [] (.qs [7] (.l 0 [] (.l 8 [] (.qs [9] (.l 10 [] .nil .no)) .no) (.l 8 [] (.l 0 [] (.qs [9] (.l 10 [] .nil .no)) .no) .no))) .no)) (.l 6 [2, 1] (.qs [7] (.l 0 [2, 1] (.l 3 [] (.l 8 [] (.qs [9] (.l 10 [] .nil .no)) .no) (.l 8 [2, 1] (.l 3 [] (.qs [9] (.l 10 [] .nil .no)) .no) .no)) (.l 3 [] (.l 0 [] (.l 8 [] (.qs [9] (.l 10 [] .nil .no)) .no) (.l 8 [] (.l 0 [] (.qs [9] (.l 10 [] .nil .no)) .no) .no)) (.l 8 [2, 1] (.l 0 [2, 1] (.l 3 [] (.qs [9] (.l 10 [] .nil .no)) .no) (.l 3 [] (.l 0 [] (.qs [9] (.l 10 [] .nil .no)) .no) .no)) .no)))) .no))) (.l 6 [2, 1] (.l 0 [2, 1] (.l 3 [] (.l 4 [] (.qs [7] (.l 8 [] (.qs [9] (.l 10 [] .nil .no)) .no)) .no) (.l 4 [2, 1] (.qs [7] (.l 3 [] (.l 8 [] (.qs [9] (.l 10 [] .nil .no)) .no) (.l 8 [2, 1] (.l 3 [] (.qs [9] (.l 10 [] .nil .no)) .no) .no))) .no)) (.l 3 [] (.l 0 [] (.l 4 [] (.qs [7] (.l 8 [] (.qs [9] (.l 10 [] .nil .no)) .no)) .no) (.l 4 [] (.qs [7] (.l 0 [] (.l 8 [] (.qs [9] (.l 10 [] .nil .no)) .no) (.l 8 [] (.l 0 [] (.qs [9] (.l 10 [] .nil .no)) .no) .no))) .no)) (.l 4 [2, 1] (.qs [7] (.l 0 [2, 1] (.l 3 [] (.l 8 [] (.qs [9] (.l 10 [] .nil .no)) .no) (.l 8 [2, 1] (.l 3 [] (.qs [9] (.l 10 [] .nil .no)) .no) .no)) (.l 3 [] (.l 0 [] (.l 8 [] (.qs [9] (.l 10 [] .nil .no)) .no) (.l 8 [] (.l 0 [] (.qs [9] (.l 10 [] .nil .no)) .no) .no)) (.l 8 [2, 1] (.l 0 [2, 1] (.l 3 [] (.qs [9] (.l 10 [] .nil .no)) .no) (.l 3 [] (.l 0 [] (.qs [9] (.l 10 [] .nil .no)) .no) .no)) .no)))) .no))) .no))))) ?_ | (refine aK [] cS ?_) | refine And.intro ?_ ?_ | fail); all_goals try (conv => whnf)
    all_goals exact ⟨(), [0], trivial, by (exact aL)⟩
  rintro _ _
  (repeat' (conv => whnf); first | (refine aC (fun _ => ?_) (fun _ => ?_) <;> try (exfalso; omega)) | refine aS ?_ | refine aG ?_ | refine aD ?_ | refine aH ?_ | refine aP_So9 ?_ | refine aI ?_ | refine aJ ?_ | fail); all_goals try (conv => whnf)
  have h0 : ImpL twv0 (lnv twL) := ⟨Imp.refl _, Imp.refl _, Imp.refl _, Imp.nil _, Imp.nil _, trivial⟩
  have h1 : ImpL twv (flv twF) := ⟨Imp.refl _, Imp.fulp rfl, Imp.refl _, Imp.refl _, Imp.refl _, Imp.refl _, Imp.refl _, Imp.refl _, trivial⟩
  exact ⟨rfl, Imp.agg ⟨Imp.fulp rfl, Imp.fulr ⟨h0, h0, trivial⟩, Imp.fulr ⟨h1, trivial⟩, trivial⟩⟩

theorem rSame_ok (ms ms' : List (List Int)) (hm : MsL ms) (hm' : MsL ms') : Ctr Tryz.prog 44 [.agg [.psl 1 (trs ms)], .agg [.psl 1 (trs ms')]] [] (fun r o => o = [] ∧ ∃ b : Bool, (b = true ↔ ms = ms') ∧ r = .bl b) := by
  refine fn_intro (E := env 0) tys_ok rfl rfl rfl Tryz.func44 (by kernel_rfl) rfl (by kernel_rfl) ?_
  have htl := trs_len ms
  have htl' := trs_len ms'
  have hl := hm.l
  have hl' := hm'.l
  by_cases hne : ms.length = ms'.length
  · (repeat' (conv => whnf); first | (refine aC (fun _ => ?_) (fun _ => ?_) <;> try (exfalso; omega)) | refine aS ?_ | refine aG ?_ | refine aD ?_ | refine aH ?_ | refine aP_So9 ?_ | refine aI ?_ | refine aJ ?_ | refine aW (.qs [0, 1, 2, 3, 4, 5, 6, 7, 8, 9] (.l 10 [] (.qs [11] .nil) .no)) ?_ | fail); all_goals try (conv => whnf)
    refine LoopOb.mk (Y := Nat) (st := fun i => ⟨[(5, i64 i), (3, .ptr 1 0), (2, .ptr 0 0)], [.box [.psl 1 (trs ms)], .box [.psl 1 (trs ms')]]⟩)
      (inv := fun i => i ≤ ms.length ∧ ∀ j, j < i → ms.getD j [] = ms'.getD j []) (fun i => ms.length - i) 0 [0, 1] ⟨by omega, fun j hj => by omega⟩ (by (exact aL)) ?_
    rintro i ⟨hi, hc⟩
    by_cases hil : i < ms.length
    · have g1 := trs_get (ms := ms) hil
      have g2 := trs_get (ms := ms') (i := i) (by omega)
      have r1 := hm.r i
      have hst : ms.getD i [] = ms'.getD i [] → ∀ j, j < i + 1 → ms.getD j [] = ms'.getD j [] := fun e j hj => by
        rcases Nat.lt_succ_iff_lt_or_eq.1 hj with h | h
        · exact hc j h
        · subst h; exact e
      have hno : ms.getD i [] ≠ ms'.getD i [] → ms ≠ ms' := fun h e => h (by rw [e])
      have hI := rInts_ok (ms.getD i []) (ms'.getD i []) r1
      generalize ms.getD i [] = a at *
      generalize ms'.getD i [] = b at *
      (repeat' (conv => whnf); first | refine ⟨i, _, rfl, g2, ?_⟩ | refine ⟨i, _, rfl, g1, ?_⟩ | (refine aC (fun _ => ?_) (fun _ => ?_) <;> try (exfalso; omega)) | refine aS ?_ | refine aG ?_ | refine aD ?_ | refine aH ?_ | refine aP_So9 ?_ | refine aI ?_ | refine aJ ?_ | refine aW (.qs [0, 1, 2, 3, 4, 5, 6, 7, 8, 9] (.l 10 [] (.qs [11] .nil) .no)) ?_ | (refine aK [] (hI) ?_) | fail); all_goals try (conv => whnf)
      all_goals first
        | exact ⟨rfl, false, ⟨fun e => (by cases e), fun e => absurd e (hno (by assumption))⟩, rfl⟩
        | exact ⟨i + 1, [0, 1], ⟨by omega, hst (by assumption)⟩, by omega, by (exact aL)⟩
        | exact ⟨i + 1, [0, 1], ⟨by omega, hst (Classical.not_not.1 (by assumption))⟩, by omega, by (exact aL)⟩
    · obtain rfl : i = ms.length := by omega
      have he : ms = ms' := List.ext_getElem hne fun j h1 h2 => by
        have := hc j h1
        rw [List.getD_eq_getElem?_getD, List.getElem?_eq_getElem h1, List.getD_eq_getElem?_getD, List.getElem?_eq_getElem h2] at this
        exact this
      (repeat' (conv => whnf); first | (refine aC (fun _ => ?_) (fun _ => ?_) <;> try (exfalso; omega)) | refine aS ?_ | refine aG ?_ | refine aD ?_ | refine aH ?_ | refine aP_So9 ?_ | refine aI ?_ | refine aJ ?_ | refine aW (.qs [0, 1, 2, 3, 4, 5, 6, 7, 8, 9] (.l 10 [] (.qs [11] .nil) .no)) ?_ | fail); all_goals try (conv => whnf)
      exact ⟨rfl, true, ⟨fun _ => he, fun _ => rfl⟩, rfl⟩
  · (repeat' (conv => whnf); first | (refine aC (fun _ => ?_) (fun _ => ?_) <;> try (exfalso; omega)) | refine aS ?_ | refine aG ?_ | refine aD ?_ | refine aH ?_ | refine aP_So9 ?_ | refine aI ?_ | refine aJ ?_ | refine aW (.qs [0, 1, 2, 3, 4, 5, 6, 7, 8, 9] (.l 10 [] (.qs [11] .nil) .no)) ?_ | fail); all_goals try (conv => whnf)
    exact ⟨rfl, false, ⟨fun e => (by cases e), fun e => absurd (congrArg List.length e) hne⟩, rfl⟩
end Go.Proofs.YtaomhdljcdadaaaGreat
end
section
namespace Go.Proofs.YtaomhdljcdadaaaGreat
open Go.Sx Go.Pk Go.Mc Go.Np
set_option maxRecDepth 4000
set_option maxHeartbeats 2000000
theorem aP_So10 {A B K : Prop} (k : K) (a : A := by (simp only [zA, zT, zD, zC, zN, ints_len, zR, Go.Cv.vals_len]; omega)) (b : B := by (simp only [zA, zT, zD, zC, zN, ints_len, zR, Go.Cv.vals_len]; omega)) : (A ∧ B) ∧ K := ⟨⟨a, b⟩, k⟩
theorem sane_ok : Ctr Tryz.prog 41 [] [] (fun r o => o = [] ∧ r = .bl true) := by
  refine Ctr.imp ?_
  refine fn_intro (E := env 0) tys_ok rfl rfl rfl Tryz.func41 (by kernel_rfl) rfl (by kernel_rfl) ?_
  have htr : trR (toF twN twP) (liN twN) 100 = [[2, 5]] := tw_tr ⟨show chL twL = fifoC from if_pos rfl, rfl⟩ ⟨show chL twL = fifoC from if_pos rfl, rfl⟩
  have hML : MsL [[2, 5]] := by
    have hS := trR_sh (F := toF twN twP) (Z := liN twN) (N := 100) tw_sk.rts
    rw [htr] at hS
    exact MsL.of tw_sk (by omega) hS
  have hrun := Run_ok twN tw_nl twP tw_sk 100 (by omega)
  rw [htr] at hrun
  have harr := Arr_ok twN tw_nl twP (by decide) [[2, 5]] hML 0 1
  rw [tw_arr] at harr
  have hqu := PQu_ok twN tw_nl twP (by decide) tw_sk.rt [[2, 5]] hML 1
  rw [tw_qu] at hqu
  have hS := trR_sh (F := toF twN twP) (Z := liN twN) (N := 100) tw_sk.rts
  rw [htr] at hS
  have hcon := Cons_ok twN tw_nl twP tw_sk 100 (by omega) [[2, 5]] hS
  rw [htr] at hcon
  have hchk := SChk_ok twN tw_nl twP (by decide)
  rw [sck_zero.2 tw_sk] at hchk
  have hsame := rSame_ok [[2, 5]] [[2, 5]] hML hML
  clear hS htr
  replace hqu := hqu.mono fun r o (h : QuR _ _ r o) => (⟨h.2, h.1⟩ : o = [.vec 3 (pks (pkq (toF twN twP) [⟨3, 0, 0⟩])), .vec 1 (ints (ixs [⟨3, 0, 0⟩]))] ∧ r = .tup [.vec 0, .vec 1])
  obtain ⟨A, hA⟩ : ∃ A, A = pks (pkq (toF twN twP) [⟨3, 0, 0⟩]) := ⟨_, rfl⟩
  obtain ⟨B, hB⟩ : ∃ B, B = ints (ixs [⟨3, 0, 0⟩]) := ⟨_, rfl⟩
  rw [← hA, ← hB] at hqu
  have hA1 : A.length = 1 := by rw [hA]; rfl
  have hB1 : B.length = 1 := by rw [hB]; rfl
  have hA0 : A[0]? = some [i64 0, i64 3, i64 25] := by rw [hA]; rfl
  clear hA hB
  replace hsame := hsame.mono fun r o (h : o = [] ∧ ∃ b : Bool, (b = true ↔ [[2, 5]] = [[2, 5]]) ∧ r = .bl b) => (by obtain ⟨h1, b, h2, h3⟩ := h; exact ⟨h1, by rw [h3, h2.2 rfl]⟩ : o = [] ∧ r = .bl true)
  replace hcon := hcon.mono fun r o (h : o = [] ∧ ∃ b : Bool, (b = true ↔ [[2, 5]] = [[2, 5]]) ∧ r = .bl b) => (by obtain ⟨h1, b, h2, h3⟩ := h; exact ⟨h1, by rw [h3, h2.2 rfl]⟩ : o = [] ∧ r = .bl true)
  (repeat' (conv => whnf); first | (refine aC (fun _ => ?_) (fun _ => ?_) <;> try (exfalso; omega)) | refine aS ?_ | refine aG ?_ | refine aD ?_ | refine aP_So10 ?_ | refine aI ?_ | refine aJ ?_ | refine aW (.qs [1, 2] (.l 0 [2] (.l 3 [] (.qs [4, 5, 6, 7, 8] .nil) .no) .no)) ?_ | refine aW (.qs [1, 2] (.l 0 [2] (.l 3 [] (.qs [4, 5, 6, 7, 8] .nil) .no) .no)) ?_ | refine aW (.qs [0, 1, 2, 3] (.l 4 [3] (.l 5 [3] (.qs [6] (.l 7 [] (.qs [8, 9, 10, 11, 12, 13, 14, 15, 16, 17, 18, 19, 20, 21, 22, 23, 24, 25, 26, 27, 28, 29, 30, 31, 32, 33, 35, 36] (.l 34 [36] (.l 37 [] (.qs [38, 39, 41] (.l 40 [] (.l 42 [] (.qs [43, 44, 45] .nil) .no) .no)) .no) .no)) .no)) .no) .no)) ?_ | fail); all_goals try (conv => whnf)
  refine .mk [.fz 0] ?_
  (repeat' (conv => whnf); first | (refine aC (fun _ => ?_) (fun _ => ?_) <;> try (exfalso; omega)) | refine aS ?_ | refine aG ?_ | refine aD ?_ | refine aH ?_ | refine aP_So10 ?_ | refine aI ?_ | refine aJ ?_ | refine aW (.qs [1, 2] (.l 0 [2] (.l 3 [] (.qs [4, 5, 6, 7, 8] .nil) .no) .no)) ?_ | refine aW (.qs [1, 2] (.l 0 [2] (.l 3 [] (.qs [4, 5, 6, 7, 8] .nil) .no) .no)) ?_ | refine aW (.qs [0, 1, 2, 3] (.l 4 [3] (.l 5 [3] (.qs [6] (.l 7 [] (.qs [8, 9, 10, 11, 12, 13, 14, 15, 16, 17, 18, 19, 20, 21, 22, 23, 24, 25, 26, 27, 28, 29, 30, 31, 32, 33, 35, 36] (.l 34 [36] (.l 37 [] (.qs [38, 39, 41] (.l 40 [] (.l 42 [] (.qs [43, 44, 45] .nil) .no) .no)) .no) .no)) .no)) .no) .no)) ?_ | (refine aK [] (two_ok) ?_) | fail); all_goals try (conv => whnf)
  refine aK [] hrun ?_
  (repeat' (conv => whnf); first | (refine aC (fun _ => ?_) (fun _ => ?_) <;> try (exfalso; omega)) | refine aS ?_ | refine aG ?_ | refine aD ?_ | refine aP_So10 ?_ | refine aI ?_ | refine aJ ?_ | refine aW (.qs [1, 2] (.l 0 [2] (.l 3 [] (.qs [4, 5, 6, 7, 8] .nil) .no) .no)) ?_ | refine aW (.qs [1, 2] (.l 0 [2] (.l 3 [] (.qs [4, 5, 6, 7, 8] .nil) .no) .no)) ?_ | refine aW (.qs [0, 1, 2, 3] (.l 4 [3] (.l 5 [3] (.qs [6] (.l 7 [] (.qs [8, 9, 10, 11, 12, 13, 14, 15, 16, 17, 18, 19, 20, 21, 22, 23, 24, 25, 26, 27, 28, 29, 30, 31, 32, 33, 35, 36] (.l 34 [36] (.l 37 [] (.qs [38, 39, 41] (.l 40 [] (.l 42 [] (.qs [43, 44, 45] .nil) .no) .no)) .no) .no)) .no)) .no) .no)) ?_ | refine And.intro ?_ ?_ | fail); all_goals try (conv => whnf)
  refine .mk [.fm 1] ?_
  (repeat' (conv => whnf); first | refine LitOb.ful ?_ | (refine aC (fun _ => ?_) (fun _ => ?_) <;> try (exfalso; omega)) | refine aS ?_ | refine aG ?_ | refine aD ?_ | refine aH ?_ | refine aP_So10 ?_ | refine aI ?_ | refine aJ ?_ | refine aW (.qs [1, 2] (.l 0 [2] (.l 3 [] (.qs [4, 5, 6, 7, 8] .nil) .no) .no)) ?_ | refine aW (.qs [1, 2] (.l 0 [2] (.l 3 [] (.qs [4, 5, 6, 7, 8] .nil) .no) .no)) ?_ | refine aW (.qs [0, 1, 2, 3] (.l 4 [3] (.l 5 [3] (.qs [6] (.l 7 [] (.qs [8, 9, 10, 11, 12, 13, 14, 15, 16, 17, 18, 19, 20, 21, 22, 23, 24, 25, 26, 27, 28, 29, 30, 31, 32, 33, 35, 36] (.l 34 [36] (.l 37 [] (.qs [38, 39, 41] (.l 40 [] (.l 42 [] (.qs [43, 44, 45] .nil) .no) .no)) .no) .no)) .no)) .no) .no)) ?_ | (refine aK [] (two_ok) ?_) | (refine aK [] harr ?_; simp only [arrT]) | (refine aK [] hqu ?_) | (refine CallOb.mk [] hsame rfl ⟨Imp.refl _, Imp.agg ⟨Imp.fulr ⟨⟨Imp.fulp rfl, trivial⟩, trivial⟩, trivial⟩, trivial⟩ rfl rfl ?_; rintro _ _ ⟨rfl, rfl⟩) | (refine aK [] hcon ?_) | (refine aK [] hchk ?_) | refine ⟨0, rfl, by omega, ?_⟩ | refine ⟨_, hA0, ?_⟩ | fail); all_goals try (conv => whnf)
  exact ⟨rfl, fun σ β v h => by
    obtain ⟨b, rfl, hb⟩ := h
    have := hb.2 rfl
    subst this; rfl⟩
end Go.Proofs.YtaomhdljcdadaaaGreat
end
