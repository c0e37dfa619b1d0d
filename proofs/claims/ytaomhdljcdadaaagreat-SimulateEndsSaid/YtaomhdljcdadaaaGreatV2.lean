/-
  A text of the proofs of this seat: lemmas that the statements' proofs use; it states nothing of the program by itself beyond the contracts that its theorems bear. Conditions: those that stand in each theorem. Its short name: V2.
-/
import Derived.Test.YtaomhdljcdadaaaGreatSd2
set_option linter.unusedVariables false
set_option linter.unusedSimpArgs false
namespace Go.Proofs.YtaomhdljcdadaaaGreat
open Go.Sx Go.Np Go.Cv
set_option maxRecDepth 4000
set_option maxHeartbeats 2000000
theorem aP_V2 {A B K : Prop} (k : K) (a : A := by (simp only [zA, zT, zD, zC, zN, ints_len, zR, Go.Cv.vals_len]; omega)) (b : B := by (simp only [zA, zT, zD, zC, zN, ints_len, zR, Go.Cv.vals_len]; omega)) : (A ∧ B) ∧ K := ⟨⟨a, b⟩, k⟩
theorem NetO_ok (L : List Int) (p : Nat) (hL : L.length ≤ 2000) (hp : p ≤ 2000) (ml mf : Nat) (hml : 1 ≤ ml ∧ ml ≤ 4) (hmf : mf ≤ 5) :
    Ctr Tryz.prog 14 [.ptr 0 0, i64 ml, i64 mf] [src L p] (fun r o => ∃ x : Nt × Nat × Nat, (NetG ml mf x.2.1 x.1 ∧ x.2.2 ≤ 2000) ∧ o = [src L x.2.2, .box [.psl 1 (strs x.1.nm), .vec 3, .vec 4], .box [.psl 1 (strs x.1.nm), .vec 3, .vec 4], .vec 5 (lns x.1.ln), .vec 8 (fls x.1.fl)] ∧ r = .agg [.psl 1 (strs x.1.nm), .vec 3, .vec 4]) := by
  refine fn_intro (E := env 1) tys_ok rfl rfl rfl Tryz.func14 (by kernel_rfl) rfl (by kernel_rfl) ?_
  (repeat' (conv => whnf); first | (refine aC (fun _ => ?_) (fun _ => ?_) <;> try (exfalso; omega)) | refine aS ?_ | refine aG ?_ | refine aD ?_ | refine aH ?_ | refine aP_V2 ?_ | refine aI ?_ | refine aJ ?_ | refine aW (.qs [0, 1, 3, 4, 5, 6] (.l 2 [4, 1] (.qs [7, 8] (.l 9 [1] (.l 10 [] (.qs [11] (.l 12 [] .nil .no)) .no) .no)) .no)) ?_ | refine aW (.qs [0, 1, 2, 3] (.l 4 [1] (.l 5 [1] (.l 6 [] (.qs [7] (.l 8 [] .nil .no)) .no) .no) .no)) ?_ | refine aW (.qs [0, 1, 2, 3, 5, 6, 7, 8, 11] (.l 4 [6, 3, 1] (.qs [9, 10] (.l 12 [1] (.l 13 [1] (.l 14 [] (.qs [15] (.l 16 [] .nil .no)) .no) .no) .no)) .no)) ?_ | fail); all_goals try (conv => whnf)
  refine CallOb.mk [0] (Range_ok L p hL hp 1 2 (by omega) (by omega) (by omega)) rfl (ImpL.refl _) rfl rfl ?_
  rintro _ _ ⟨⟨k, p1⟩, ⟨k1, k2, hp1⟩, rfl, rfl⟩
  dsimp only at k1 k2 hp1 ⊢
  obtain ⟨k, rfl⟩ : ∃ n : Nat, k = n := ⟨k.toNat, by omega⟩
  (repeat' (conv => whnf); first | (refine aC (fun _ => ?_) (fun _ => ?_) <;> try (exfalso; omega)) | refine aS ?_ | refine aG ?_ | refine aD ?_ | refine aH ?_ | refine aP_V2 ?_ | refine aI ?_ | refine aJ ?_ | refine aW (.qs [0, 1, 3, 4, 5, 6] (.l 2 [4, 1] (.qs [7, 8] (.l 9 [1] (.l 10 [] (.qs [11] (.l 12 [] .nil .no)) .no) .no)) .no)) ?_ | refine aW (.qs [0, 1, 2, 3] (.l 4 [1] (.l 5 [1] (.l 6 [] (.qs [7] (.l 8 [] .nil .no)) .no) .no) .no)) ?_ | refine aW (.qs [0, 1, 2, 3, 5, 6, 7, 8, 11] (.l 4 [6, 3, 1] (.qs [9, 10] (.l 12 [1] (.l 13 [1] (.l 14 [] (.qs [15] (.l 16 [] .nil .no)) .no) .no) .no)) .no)) ?_ | fail); all_goals try (conv => whnf)
  refine CallOb.mk [0] (Range_ok L p1 hL hp1 1 ml (by omega) (by omega) (by omega)) rfl (ImpL.refl _) rfl rfl ?_
  rintro _ _ ⟨⟨v, p2⟩, ⟨v1, v2, hp2⟩, rfl, rfl⟩
  dsimp only at v1 v2 hp2 ⊢
  obtain ⟨v, rfl⟩ : ∃ n : Nat, v = n := ⟨v.toNat, by omega⟩
  (repeat' (conv => whnf); first | (refine aC (fun _ => ?_) (fun _ => ?_) <;> try (exfalso; omega)) | refine aS ?_ | refine aG ?_ | refine aD ?_ | refine aP_V2 ?_ | refine aI ?_ | refine aJ ?_ | refine aW (.qs [0, 1, 3, 4, 5, 6] (.l 2 [4, 1] (.qs [7, 8] (.l 9 [1] (.l 10 [] (.qs [11] (.l 12 [] .nil .no)) .no) .no)) .no)) ?_ | refine aW (.qs [0, 1, 2, 3] (.l 4 [1] (.l 5 [1] (.l 6 [] (.qs [7] (.l 8 [] .nil .no)) .no) .no) .no)) ?_ | refine aW (.qs [0, 1, 2, 3, 5, 6, 7, 8, 11] (.l 4 [6, 3, 1] (.qs [9, 10] (.l 12 [1] (.l 13 [1] (.l 14 [] (.qs [15] (.l 16 [] .nil .no)) .no) .no) .no)) .no)) ?_ | fail); all_goals try (conv => whnf)
  refine .mk [.nb 2 0 1, .nb 2 1 5, .nb 2 2 8] ?_
  refine LoopOb.mk (Y := List Ln × Nat) (st := fun y => ⟨[(9, i64 ((v : Int) - y.1.length)), (8, i64 k), (7, .ptr 2 0), (6, .ptr 1 0), (0, .ptr 0 0), (2, i64 mf)], [src L y.2, .box [.nil, .nil, .nil], .box [.vec 3, .vec 4, .vec 5], .vec 1 (strs (nms y.1.length)), .vec 5 (lns y.1), .vec 8 []]⟩)
    (inv := fun y => y.1.length ≤ v ∧ (∀ l ∈ y.1, LnG k l) ∧ y.2 ≤ 2000) (fun y => v - y.1.length) ([], p2) [0, 1, 2, 3, 4, 5] ⟨by simp, by simp, hp2⟩ (by (exact aL)) ?_
  rintro ⟨ls, p3⟩ ⟨hl, hg, hp3⟩
  dsimp only at hl hg hp3 ⊢
  have hsl := stl (nms ls.length)
  have hnl := nms_len (t := ls.length)
  have hll := lnl ls
  (repeat' (conv => whnf); first | refine aS ?_ | refine aG ?_ | refine aD ?_ | refine aH ?_ | refine aP_V2 ?_ | refine aI ?_ | refine aJ ?_ | refine aW (.qs [0, 1, 3, 4, 5, 6] (.l 2 [4, 1] (.qs [7, 8] (.l 9 [1] (.l 10 [] (.qs [11] (.l 12 [] .nil .no)) .no) .no)) .no)) ?_ | refine aW (.qs [0, 1, 2, 3] (.l 4 [1] (.l 5 [1] (.l 6 [] (.qs [7] (.l 8 [] .nil .no)) .no) .no) .no)) ?_ | refine aW (.qs [0, 1, 2, 3, 5, 6, 7, 8, 11] (.l 4 [6, 3, 1] (.qs [9, 10] (.l 12 [1] (.l 13 [1] (.l 14 [] (.qs [15] (.l 16 [] .nil .no)) .no) .no) .no)) .no)) ?_ | fail); all_goals try (conv => whnf)
  refine CondOb.mk (fun hlt => ?_) (fun hlt => ?_)
  · have hlit : ([[.str ⟨#[97]⟩], [.str ⟨#[98]⟩], [.str ⟨#[99]⟩], [.str ⟨#[100]⟩]] : List (List SV))[ls.length]? = some [.str (lname ls.length)] := by
      rcases (show ls.length = 0 ∨ ls.length = 1 ∨ ls.length = 2 ∨ ls.length = 3 by omega) with h | h | h | h <;> rw [h] <;> rfl
    have hmod : ((strs (nms ls.length)).length : Int).tmod 4 = ls.length := by
      rw [hsl, hnl]; exact Int.tmod_eq_of_lt (by omega) (by omega)
    (repeat' (conv => whnf); first | refine LitOb.ful ?_ | (refine aC (fun _ => ?_) (fun _ => ?_) <;> try (exfalso; omega)) | refine aS ?_ | refine aG ?_ | refine aD ?_ | refine aH ?_ | refine aP_V2 ?_ | refine aI ?_ | refine aJ ?_ | refine aW (.qs [0, 1, 3, 4, 5, 6] (.l 2 [4, 1] (.qs [7, 8] (.l 9 [1] (.l 10 [] (.qs [11] (.l 12 [] .nil .no)) .no) .no)) .no)) ?_ | refine aW (.qs [0, 1, 2, 3] (.l 4 [1] (.l 5 [1] (.l 6 [] (.qs [7] (.l 8 [] .nil .no)) .no) .no) .no)) ?_ | refine aW (.qs [0, 1, 2, 3, 5, 6, 7, 8, 11] (.l 4 [6, 3, 1] (.qs [9, 10] (.l 12 [1] (.l 13 [1] (.l 14 [] (.qs [15] (.l 16 [] .nil .no)) .no) .no) .no)) .no)) ?_ | refine ⟨by decide, ?_⟩ | refine ⟨ls.length, _, hmod, hlit, ?_⟩ | (refine CallOb.mk [0] (Port_ok L p3 hL hp3 k (by omega)) rfl (ImpL.refl _) rfl rfl ?_; rintro _ _ ⟨⟨l, p4⟩, ⟨hP, hw, hs, hp4⟩, rfl, rfl⟩; dsimp only at hP hw hs hp4 ⊢) | fail); all_goals try (conv => whnf)
    exact ⟨(ls ++ [l], p4), [0, 1, 2, 6, 7, 5], ⟨by simp only [List.length_append, List.length_singleton]; omega, all_app hg ⟨hP, hw, hs⟩, hp4⟩, by simp only [List.length_append, List.length_singleton]; omega, by dsimp only; rw [List.length_append, List.length_singleton, nms_succ, strs_app, lns_app]; (exact aL)⟩
  have hv : v = ls.length := by omega
  subst hv
  (repeat' (conv => whnf); first | (refine aC (fun _ => ?_) (fun _ => ?_) <;> try (exfalso; omega)) | refine aS ?_ | refine aG ?_ | refine aD ?_ | refine aP_V2 ?_ | refine aI ?_ | refine aJ ?_ | refine aW (.qs [0, 1, 3, 4, 5, 6] (.l 2 [4, 1] (.qs [7, 8] (.l 9 [1] (.l 10 [] (.qs [11] (.l 12 [] .nil .no)) .no) .no)) .no)) ?_ | refine aW (.qs [0, 1, 2, 3] (.l 4 [1] (.l 5 [1] (.l 6 [] (.qs [7] (.l 8 [] .nil .no)) .no) .no) .no)) ?_ | refine aW (.qs [0, 1, 2, 3, 5, 6, 7, 8, 11] (.l 4 [6, 3, 1] (.qs [9, 10] (.l 12 [1] (.l 13 [1] (.l 14 [] (.qs [15] (.l 16 [] .nil .no)) .no) .no) .no)) .no)) ?_ | fail); all_goals try (conv => whnf)
  refine .mk [.fz 3] ?_
  (repeat' (conv => whnf); first | (refine aC (fun _ => ?_) (fun _ => ?_) <;> try (exfalso; omega)) | refine aS ?_ | refine aG ?_ | refine aD ?_ | refine aP_V2 ?_ | refine aI ?_ | refine aJ ?_ | refine aW (.qs [0, 1, 3, 4, 5, 6] (.l 2 [4, 1] (.qs [7, 8] (.l 9 [1] (.l 10 [] (.qs [11] (.l 12 [] .nil .no)) .no) .no)) .no)) ?_ | refine aW (.qs [0, 1, 2, 3] (.l 4 [1] (.l 5 [1] (.l 6 [] (.qs [7] (.l 8 [] .nil .no)) .no) .no) .no)) ?_ | refine aW (.qs [0, 1, 2, 3, 5, 6, 7, 8, 11] (.l 4 [6, 3, 1] (.qs [9, 10] (.l 12 [1] (.l 13 [1] (.l 14 [] (.qs [15] (.l 16 [] .nil .no)) .no) .no) .no)) .no)) ?_ | fail); all_goals try (conv => whnf)
  refine CallOb.mk [0] (Range_ok L p3 hL hp3 0 mf (by omega) (by omega) (by omega)) rfl (ImpL.refl _) rfl rfl ?_
  rintro _ _ ⟨⟨v', p4⟩, ⟨w1, w2, hp4⟩, rfl, rfl⟩
  dsimp only at w1 w2 hp4 ⊢
  obtain ⟨v', rfl⟩ : ∃ n : Nat, v' = n := ⟨v'.toNat, by omega⟩
  (repeat' (conv => whnf); first | (refine aC (fun _ => ?_) (fun _ => ?_) <;> try (exfalso; omega)) | refine aS ?_ | refine aG ?_ | refine aD ?_ | refine aP_V2 ?_ | refine aI ?_ | refine aJ ?_ | refine aW (.qs [0, 1, 3, 4, 5, 6] (.l 2 [4, 1] (.qs [7, 8] (.l 9 [1] (.l 10 [] (.qs [11] (.l 12 [] .nil .no)) .no) .no)) .no)) ?_ | refine aW (.qs [0, 1, 2, 3] (.l 4 [1] (.l 5 [1] (.l 6 [] (.qs [7] (.l 8 [] .nil .no)) .no) .no) .no)) ?_ | refine aW (.qs [0, 1, 2, 3, 5, 6, 7, 8, 11] (.l 4 [6, 3, 1] (.qs [9, 10] (.l 12 [1] (.l 13 [1] (.l 14 [] (.qs [15] (.l 16 [] .nil .no)) .no) .no) .no)) .no)) ?_ | fail); all_goals try (conv => whnf)
  refine .mk [] ?_
  refine LoopOb.mk (Y := List Fl × Nat) (st := fun y => ⟨[(10, i64 ((v' : Int) - y.1.length)), (8, i64 k), (7, .ptr 2 0), (6, .ptr 1 0), (0, .ptr 0 0)], [src L y.2, .box [.nil, .nil, .nil], .box [.psl 1 (strs (nms ls.length)), .vec 3, .vec 4], .vec 5 (lns ls), .vec 8 (fls y.1)]⟩)
    (inv := fun y => y.1.length ≤ v' ∧ (∀ f ∈ y.1, FlG ls.length k f) ∧ (∀ i, i < y.1.length → (y.1.getD i fl0).nm = fname i) ∧ y.2 ≤ 2000) (fun y => v' - y.1.length) ([], p4) [0, 1, 2, 4, 5] ⟨by simp, by simp, by simp, hp4⟩ (by (exact aL)) ?_
  rintro ⟨fl, p5⟩ ⟨fl1, fg, fnm, hp5⟩
  dsimp only at fl1 fg fnm hp5 ⊢
  have hfl := fll fl
  (repeat' (conv => whnf); first | refine aS ?_ | refine aG ?_ | refine aD ?_ | refine aH ?_ | refine aP_V2 ?_ | refine aI ?_ | refine aJ ?_ | refine aW (.qs [0, 1, 3, 4, 5, 6] (.l 2 [4, 1] (.qs [7, 8] (.l 9 [1] (.l 10 [] (.qs [11] (.l 12 [] .nil .no)) .no) .no)) .no)) ?_ | refine aW (.qs [0, 1, 2, 3] (.l 4 [1] (.l 5 [1] (.l 6 [] (.qs [7] (.l 8 [] .nil .no)) .no) .no) .no)) ?_ | refine aW (.qs [0, 1, 2, 3, 5, 6, 7, 8, 11] (.l 4 [6, 3, 1] (.qs [9, 10] (.l 12 [1] (.l 13 [1] (.l 14 [] (.qs [15] (.l 16 [] .nil .no)) .no) .no) .no)) .no)) ?_ | fail); all_goals try (conv => whnf)
  refine CondOb.mk (fun hlt2 => ?_) (fun hlt2 => ?_)
  · have hlit : ([[.str ⟨#[102]⟩], [.str ⟨#[103]⟩], [.str ⟨#[104]⟩], [.str ⟨#[105]⟩], [.str ⟨#[106]⟩]] : List (List SV))[fl.length]? = some [.str (fname fl.length)] := by
      rcases (show fl.length = 0 ∨ fl.length = 1 ∨ fl.length = 2 ∨ fl.length = 3 ∨ fl.length = 4 by omega) with h | h | h | h | h <;> rw [h] <;> rfl
    have hmod : ((fls fl).length : Int).tmod 5 = fl.length := by
      rw [hfl]; exact Int.tmod_eq_of_lt (by omega) (by omega)
    (repeat' (conv => whnf); first | refine LitOb.ful ?_ | (refine aC (fun _ => ?_) (fun _ => ?_) <;> try (exfalso; omega)) | refine aS ?_ | refine aG ?_ | refine aD ?_ | refine aH ?_ | refine aP_V2 ?_ | refine aI ?_ | refine aJ ?_ | refine aW (.qs [0, 1, 3, 4, 5, 6] (.l 2 [4, 1] (.qs [7, 8] (.l 9 [1] (.l 10 [] (.qs [11] (.l 12 [] .nil .no)) .no) .no)) .no)) ?_ | refine aW (.qs [0, 1, 2, 3] (.l 4 [1] (.l 5 [1] (.l 6 [] (.qs [7] (.l 8 [] .nil .no)) .no) .no) .no)) ?_ | refine aW (.qs [0, 1, 2, 3, 5, 6, 7, 8, 11] (.l 4 [6, 3, 1] (.qs [9, 10] (.l 12 [1] (.l 13 [1] (.l 14 [] (.qs [15] (.l 16 [] .nil .no)) .no) .no) .no)) .no)) ?_ | refine ⟨by decide, ?_⟩ | refine ⟨fl.length, _, hmod, hlit, ?_⟩ | (refine CallOb.mk [0, 3, 4] (FlowO_ok L p5 hL hp5 (nms ls.length) ls fl (fname fl.length) k (by omega) (by omega)) rfl (ImpL.refl _) rfl rfl ?_; rintro _ _ ⟨⟨f, p6⟩, ⟨hF, hnm, hp6⟩, rfl, rfl⟩; dsimp only at hF hnm hp6 ⊢) | fail); all_goals try (conv => whnf)
    refine ⟨(fl ++ [f], p6), [0, 1, 2, 3, 5], ⟨by simp only [List.length_append, List.length_singleton]; omega, all_app fg hF, fun i hi => ?_, hp6⟩, by simp only [List.length_append, List.length_singleton]; omega, by dsimp only; rw [List.length_append, List.length_singleton, fls_app]; (exact aL)⟩
    simp only [List.length_append, List.length_singleton] at hi
    by_cases e : i = fl.length
    · subst e; simp [List.getD_eq_getElem?_getD, hnm]
    · have := fnm i (by omega)
      rw [← this]
      simp [List.getD_eq_getElem?_getD, List.getElem?_append_left (show i < fl.length by omega)]
  · (repeat' (conv => whnf); first | refine aC (fun _ => ?_) (fun _ => ?_) | refine aS ?_ | refine aG ?_ | refine aD ?_ | refine aH ?_ | refine aP_V2 ?_ | refine aI ?_ | refine aJ ?_ | refine aW (.qs [0, 1, 3, 4, 5, 6] (.l 2 [4, 1] (.qs [7, 8] (.l 9 [1] (.l 10 [] (.qs [11] (.l 12 [] .nil .no)) .no) .no)) .no)) ?_ | refine aW (.qs [0, 1, 2, 3] (.l 4 [1] (.l 5 [1] (.l 6 [] (.qs [7] (.l 8 [] .nil .no)) .no) .no) .no)) ?_ | refine aW (.qs [0, 1, 2, 3, 5, 6, 7, 8, 11] (.l 4 [6, 3, 1] (.qs [9, 10] (.l 12 [1] (.l 13 [1] (.l 14 [] (.qs [15] (.l 16 [] .nil .no)) .no) .no) .no)) .no)) ?_ | fail); all_goals try (conv => whnf)
    refine ⟨(⟨nms ls.length, ls, fl⟩, k, p5), ⟨⟨⟨⟨by dsimp only; omega, by dsimp only; omega⟩, ⟨by dsimp only; omega, by dsimp only; omega⟩, hnl, fun i hi => nms_get hi, fun l hl => ⟨(hg l hl).p.e, (hg l hl).p.n⟩, by dsimp only; omega, fnm, fg⟩, by dsimp only; omega, by dsimp only; omega, hg⟩, hp5⟩, rfl, rfl⟩
end Go.Proofs.YtaomhdljcdadaaaGreat
