/-
  A text of the proofs of this seat: lemmas that the statements' proofs use; it states nothing of the program by itself beyond the contracts that its theorems bear. Conditions: those that stand in each theorem. Its short name: V2 Mba.
-/
import Derived.Test.YtaomhdljcdadaaaGreatSd2
import Derived.Test.YtaomhdljcdadaaaGreatMz
set_option linter.unusedVariables false
set_option linter.unusedSimpArgs false
section
namespace Go.Proofs.YtaomhdljcdadaaaGreat
open Go.Sx Go.Np Go.Cv
set_option maxRecDepth 4000
set_option maxHeartbeats 2000000
theorem aP_V2 {A B K : Prop} (k : K) (a : A := by (simp only [zA, zT, zD, zC, zN, ints_len, zR, Go.Cv.vals_len]; omega)) (b : B := by (simp only [zA, zT, zD, zC, zN, ints_len, zR, Go.Cv.vals_len]; omega)) : (A ∧ B) ∧ K := ⟨⟨a, b⟩, k⟩
theorem NetO_ok (L : List Int) (p : Nat) (hL : L.length ≤ 2000) (hp : p ≤ 2000) (ml mf : Nat) (hml : 1 ≤ ml ∧ ml ≤ 4) (hmf : mf ≤ 5) :
    Ctr Tryz.prog 14 [.ptr 0 0, i64 ml, i64 mf] [src L p] (fun r o => ∃ x : Nt × Nat × Nat, (NetG ml mf x.2.1 x.1 ∧ x.2.2 ≤ 2000) ∧ o = [src L x.2.2, .box [.psl 1 (strs x.1.nm), .vec 3, .vec 4], .box [.psl 1 (strs x.1.nm), .vec 3, .vec 4], .vec 5 (lns x.1.ln), .vec 8 (fls x.1.fl)] ∧ r = .agg [.psl 1 (strs x.1.nm), .vec 3, .vec 4]) := by
  refine fn_intro (E := env 1) tys_ok rfl rfl rfl Tryz.func14 (by kernel_rfl) rfl (by kernel_rfl) ?_
  (repeat' (conv => whnf); first | (refine aC (fun _ => ?_) (fun _ => ?_) <;> try (exfalso; omega)) | refine aS ?_ | refine aG ?_ | refine aD ?_ | refine aH ?_ | refine aP_V2 ?_ | refine aI ?_ | refine aJ ?_ | refine aW (.qs [0, 1, 3, 4, 5, 6] (.l 2 [4, 1] (.qs [7, 8] (.l 9 [1] (.l 10 [] (.qs [11] (.l 12 [] .nil .no)) .no) .no)) .no)) ?_ | refine aW (.qs [0, 1, 2, 3] (.l 4 [1] (.l 5 [1] (.l 6 [] (.qs [7] (.l 8 [] .nil .no)) .no) .no) .no)) ?_ | refine aW (.qs [0, 1, 2, 3, 5, 6, 7, 8, 11] (.l 4 [6, 3, 1] (.qs [9, 10] (.l 12 [1] (.l 13 [1] (.l 14 [] (.qs [15] (.l 16 [] .nil .no)) .no) .no) .no)) .no)) ?_ | fail); all_goals try (conv => whnf)
  refine CallOb.mk [0] (Range_ok L p hL hp 1 2 (by omega) (by omega) (by omega)) rfl (ImpL.refl _) rfl rfl ?_
  rintro _ _ ⟨⟨k, p1⟩, ⟨k1, k2, hp1⟩, rfl, rfl⟩
  dsimp only at k1 k2 hp1 ⊢
  obtain ⟨k, rfl⟩ : ∃ n : Nat, k = n := ⟨k.toNat, by omega⟩
  (repeat' (conv => whnf); first | (refine aC (fun _ => ?_) (fun _ => ?_) <;> try (exfalso; omega)) | refine aS ?_ | refine aG ?_ | refine aD ?_ | refine aH ?_ | refine aP_V2 ?_ | refine aI ?_ | refine aJ ?_ | refine aW (.qs [0, 1, 3, 4, 5, 6] (.l 2 [4, 1] (.qs [7, 8] (.l 9 [1] (.l 10 [] (.qs [11] (.l 12 [] .nil .no)) .no) .no)) .no)) ?_ | refine aW (.qs [0, 1, 2, 3] (.l 4 [1] (.l 5 [1] (.l 6 [] (.qs [7] (.l 8 [] .nil .no)) .no) .no) .no)) ?_ | refine aW (.qs [0, 1, 2, 3, 5, 6, 7, 8, 11] (.l 4 [6, 3, 1] (.qs [9, 10] (.l 12 [1] (.l 13 [1] (.l 14 [] (.qs [15] (.l 16 [] .nil .no)) .no) .no) .no)) .no)) ?_ | fail); all_goals try (conv => whnf)
  refine CallOb.mk [0] (Range_ok L p1 hL hp1 1 ml (by omega) (by omega) (by omega)) rfl (ImpL.refl _) rfl rfl ?_
  rintro _ _ ⟨⟨v, p2⟩, ⟨v1, v2, hp2⟩, rfl, rfl⟩
  dsimp only at v1 v2 hp2 ⊢
  obtain ⟨v, rfl⟩ : ∃ n : Nat, v = n := ⟨v.toNat, by omega⟩
  (repeat' (conv => whnf); first | (refine aC (fun _ => ?_) (fun _ => ?_) <;> try (exfalso; omega)) | refine aS ?_ | refine aG ?_ | refine aD ?_ | refine aP_V2 ?_ | refine aI ?_ | refine aJ ?_ | refine aW (.qs [0, 1, 3, 4, 5, 6] (.l 2 [4, 1] (.qs [7, 8] (.l 9 [1] (.l 10 [] (.qs [11] (.l 12 [] .nil .no)) .no) .no)) .no)) ?_ | refine aW (.qs [0, 1, 2, 3] (.l 4 [1] (.l 5 [1] (.l 6 [] (.qs [7] (.l 8 [] .nil .no)) .no) .no) .no)) ?_ | refine aW (.qs [0, 1, 2, 3, 5, 6, 7, 8, 11] (.l 4 [6, 3, 1] (.qs [9, 10] (.l 12 [1] (.l 13 [1] (.l 14 [] (.qs [15] (.l 16 [] .nil .no)) .no) .no) .no)) .no)) ?_ | fail); all_goals try (conv => whnf)
  refine .mk [.nb 2 0 1, .nb 2 1 5, .nb 2 2 8] ?_
  refine LoopOb.mk (Y := List Ln × Nat) (st := fun y => ⟨[(9, i64 ((v : Int) - y.1.length)), (8, i64 k), (7, .ptr 2 0), (6, .ptr 1 0), (0, .ptr 0 0), (2, i64 mf)], [src L y.2, .box [.nil, .nil, .nil], .box [.vec 3, .vec 4, .vec 5], .vec 1 (strs (nms y.1.length)), .vec 5 (lns y.1), .vec 8 []]⟩)
    (inv := fun y => y.1.length ≤ v ∧ (∀ l ∈ y.1, LnG k l) ∧ y.2 ≤ 2000) (fun y => v - y.1.length) ([], p2) [0, 1, 2, 3, 4, 5] ⟨by simp, by simp, hp2⟩ (by (exact aL)) ?_
  rintro ⟨ls, p3⟩ ⟨hl, hg, hp3⟩
  dsimp only at hl hg hp3 ⊢
  have hsl := stl (nms ls.length)
  have hnl := nms_len (t := ls.length)
  have hll := lnl ls
  (repeat' (conv => whnf); first | refine aS ?_ | refine aG ?_ | refine aD ?_ | refine aH ?_ | refine aP_V2 ?_ | refine aI ?_ | refine aJ ?_ | refine aW (.qs [0, 1, 3, 4, 5, 6] (.l 2 [4, 1] (.qs [7, 8] (.l 9 [1] (.l 10 [] (.qs [11] (.l 12 [] .nil .no)) .no) .no)) .no)) ?_ | refine aW (.qs [0, 1, 2, 3] (.l 4 [1] (.l 5 [1] (.l 6 [] (.qs [7] (.l 8 [] .nil .no)) .no) .no) .no)) ?_ | refine aW (.qs [0, 1, 2, 3, 5, 6, 7, 8, 11] (.l 4 [6, 3, 1] (.qs [9, 10] (.l 12 [1] (.l 13 [1] (.l 14 [] (.qs [15] (.l 16 [] .nil .no)) .no) .no) .no)) .no)) ?_ | fail); all_goals try (conv => whnf)
  refine CondOb.mk (fun hlt => ?_) (fun hlt => ?_)
  · have hlit : ([[.str ⟨#[97]⟩], [.str ⟨#[98]⟩], [.str ⟨#[99]⟩], [.str ⟨#[100]⟩]] : List (List SV))[ls.length]? = some [.str (lname ls.length)] := by
      rcases (show ls.length = 0 ∨ ls.length = 1 ∨ ls.length = 2 ∨ ls.length = 3 by omega) with h | h | h | h <;> rw [h] <;> rfl
    have hmod : ((strs (nms ls.length)).length : Int).tmod 4 = ls.length := by
      rw [hsl, hnl]; exact Int.tmod_eq_of_lt (by omega) (by omega)
    (repeat' (conv => whnf); first | refine LitOb.ful ?_ | (refine aC (fun _ => ?_) (fun _ => ?_) <;> try (exfalso; omega)) | refine aS ?_ | refine aG ?_ | refine aD ?_ | refine aH ?_ | refine aP_V2 ?_ | refine aI ?_ | refine aJ ?_ | refine aW (.qs [0, 1, 3, 4, 5, 6] (.l 2 [4, 1] (.qs [7, 8] (.l 9 [1] (.l 10 [] (.qs [11] (.l 12 [] .nil .no)) .no) .no)) .no)) ?_ | refine aW (.qs [0, 1, 2, 3] (.l 4 [1] (.l 5 [1] (.l 6 [] (.qs [7] (.l 8 [] .nil .no)) .no) .no) .no)) ?_ | refine aW (.qs [0, 1, 2, 3, 5, 6, 7, 8, 11] (.l 4 [6, 3, 1] (.qs [9, 10] (.l 12 [1] (.l 13 [1] (.l 14 [] (.qs [15] (.l 16 [] .nil .no)) .no) .no) .no)) .no)) ?_ | refine ⟨by decide, ?_⟩ | refine ⟨ls.length, _, hmod, hlit, ?_⟩ | (refine CallOb.mk [0] (Port_ok L p3 hL hp3 k (by omega)) rfl (ImpL.refl _) rfl rfl ?_; rintro _ _ ⟨⟨l, p4⟩, ⟨hP, hw, hs, hp4⟩, rfl, rfl⟩; dsimp only at hP hw hs hp4 ⊢) | fail); all_goals try (conv => whnf)
    exact ⟨(ls ++ [l], p4), [0, 1, 2, 6, 7, 5], ⟨by simp only [List.length_append, List.length_singleton]; omega, all_app hg ⟨hP, hw, hs⟩, hp4⟩, by simp only [List.length_append, List.length_singleton]; omega, by dsimp only; rw [List.length_append, List.length_singleton, nms_succ, strs_app, lns_app]; (exact aL)⟩
  have hv : v = ls.length := by omega
  subst hv
  (repeat' (conv => whnf); first | (refine aC (fun _ => ?_) (fun _ => ?_) <;> try (exfalso; omega)) | refine aS ?_ | refine aG ?_ | refine aD ?_ | refine aP_V2 ?_ | refine aI ?_ | refine aJ ?_ | refine aW (.qs [0, 1, 3, 4, 5, 6] (.l 2 [4, 1] (.qs [7, 8] (.l 9 [1] (.l 10 [] (.qs [11] (.l 12 [] .nil .no)) .no) .no)) .no)) ?_ | refine aW (.qs [0, 1, 2, 3] (.l 4 [1] (.l 5 [1] (.l 6 [] (.qs [7] (.l 8 [] .nil .no)) .no) .no) .no)) ?_ | refine aW (.qs [0, 1, 2, 3, 5, 6, 7, 8, 11] (.l 4 [6, 3, 1] (.qs [9, 10] (.l 12 [1] (.l 13 [1] (.l 14 [] (.qs [15] (.l 16 [] .nil .no)) .no) .no) .no)) .no)) ?_ | fail); all_goals try (conv => whnf)
  refine .mk [.fz 3] ?_
  (repeat' (conv => whnf); first | (refine aC (fun _ => ?_) (fun _ => ?_) <;> try (exfalso; omega)) | refine aS ?_ | refine aG ?_ | refine aD ?_ | refine aP_V2 ?_ | refine aI ?_ | refine aJ ?_ | refine aW (.qs [0, 1, 3, 4, 5, 6] (.l 2 [4, 1] (.qs [7, 8] (.l 9 [1] (.l 10 [] (.qs [11] (.l 12 [] .nil .no)) .no) .no)) .no)) ?_ | refine aW (.qs [0, 1, 2, 3] (.l 4 [1] (.l 5 [1] (.l 6 [] (.qs [7] (.l 8 [] .nil .no)) .no) .no) .no)) ?_ | refine aW (.qs [0, 1, 2, 3, 5, 6, 7, 8, 11] (.l 4 [6, 3, 1] (.qs [9, 10] (.l 12 [1] (.l 13 [1] (.l 14 [] (.qs [15] (.l 16 [] .nil .no)) .no) .no) .no)) .no)) ?_ | fail); all_goals try (conv => whnf)
  refine CallOb.mk [0] (Range_ok L p3 hL hp3 0 mf (by omega) (by omega) (by omega)) rfl (ImpL.refl _) rfl rfl ?_
  rintro _ _ ⟨⟨v', p4⟩, ⟨w1, w2, hp4⟩, rfl, rfl⟩
  dsimp only at w1 w2 hp4 ⊢
  obtain ⟨v', rfl⟩ : ∃ n : Nat, v' = n := ⟨v'.toNat, by omega⟩
  (repeat' (conv => whnf); first | (refine aC (fun _ => ?_) (fun _ => ?_) <;> try (exfalso; omega)) | refine aS ?_ | refine aG ?_ | refine aD ?_ | refine aP_V2 ?_ | refine aI ?_ | refine aJ ?_ | refine aW (.qs [0, 1, 3, 4, 5, 6] (.l 2 [4, 1] (.qs [7, 8] (.l 9 [1] (.l 10 [] (.qs [11] (.l 12 [] .nil .no)) .no) .no)) .no)) ?_ | refine aW (.qs [0, 1, 2, 3] (.l 4 [1] (.l 5 [1] (.l 6 [] (.qs [7] (.l 8 [] .nil .no)) .no) .no) .no)) ?_ | refine aW (.qs [0, 1, 2, 3, 5, 6, 7, 8, 11] (.l 4 [6, 3, 1] (.qs [9, 10] (.l 12 [1] (.l 13 [1] (.l 14 [] (.qs [15] (.l 16 [] .nil .no)) .no) .no) .no)) .no)) ?_ | fail); all_goals try (conv => whnf)
  refine .mk [] ?_
  refine LoopOb.mk (Y := List Fl × Nat) (st := fun y => ⟨[(10, i64 ((v' : Int) - y.1.length)), (8, i64 k), (7, .ptr 2 0), (6, .ptr 1 0), (0, .ptr 0 0)], [src L y.2, .box [.nil, .nil, .nil], .box [.psl 1 (strs (nms ls.length)), .vec 3, .vec 4], .vec 5 (lns ls), .vec 8 (fls y.1)]⟩)
    (inv := fun y => y.1.length ≤ v' ∧ (∀ f ∈ y.1, FlG ls.length k f) ∧ (∀ i, i < y.1.length → (y.1.getD i fl0).nm = fname i) ∧ y.2 ≤ 2000) (fun y => v' - y.1.length) ([], p4) [0, 1, 2, 4, 5] ⟨by simp, by simp, by simp, hp4⟩ (by (exact aL)) ?_
  rintro ⟨fl, p5⟩ ⟨fl1, fg, fnm, hp5⟩
  dsimp only at fl1 fg fnm hp5 ⊢
  have hfl := fll fl
  (repeat' (conv => whnf); first | refine aS ?_ | refine aG ?_ | refine aD ?_ | refine aH ?_ | refine aP_V2 ?_ | refine aI ?_ | refine aJ ?_ | refine aW (.qs [0, 1, 3, 4, 5, 6] (.l 2 [4, 1] (.qs [7, 8] (.l 9 [1] (.l 10 [] (.qs [11] (.l 12 [] .nil .no)) .no) .no)) .no)) ?_ | refine aW (.qs [0, 1, 2, 3] (.l 4 [1] (.l 5 [1] (.l 6 [] (.qs [7] (.l 8 [] .nil .no)) .no) .no) .no)) ?_ | refine aW (.qs [0, 1, 2, 3, 5, 6, 7, 8, 11] (.l 4 [6, 3, 1] (.qs [9, 10] (.l 12 [1] (.l 13 [1] (.l 14 [] (.qs [15] (.l 16 [] .nil .no)) .no) .no) .no)) .no)) ?_ | fail); all_goals try (conv => whnf)
  refine CondOb.mk (fun hlt2 => ?_) (fun hlt2 => ?_)
  · have hlit : ([[.str ⟨#[102]⟩], [.str ⟨#[103]⟩], [.str ⟨#[104]⟩], [.str ⟨#[105]⟩], [.str ⟨#[106]⟩]] : List (List SV))[fl.length]? = some [.str (fname fl.length)] := by
      rcases (show fl.length = 0 ∨ fl.length = 1 ∨ fl.length = 2 ∨ fl.length = 3 ∨ fl.length = 4 by omega) with h | h | h | h | h <;> rw [h] <;> rfl
    have hmod : ((fls fl).length : Int).tmod 5 = fl.length := by
      rw [hfl]; exact Int.tmod_eq_of_lt (by omega) (by omega)
    (repeat' (conv => whnf); first | refine LitOb.ful ?_ | (refine aC (fun _ => ?_) (fun _ => ?_) <;> try (exfalso; omega)) | refine aS ?_ | refine aG ?_ | refine aD ?_ | refine aH ?_ | refine aP_V2 ?_ | refine aI ?_ | refine aJ ?_ | refine aW (.qs [0, 1, 3, 4, 5, 6] (.l 2 [4, 1] (.qs [7, 8] (.l 9 [1] (.l 10 [] (.qs [11] (.l 12 [] .nil .no)) .no) .no)) .no)) ?_ | refine aW (.qs [0, 1, 2, 3] (.l 4 [1] (.l 5 [1] (.l 6 [] (.qs [7] (.l 8 [] .nil .no)) .no) .no) .no)) ?_ | refine aW (.qs [0, 1, 2, 3, 5, 6, 7, 8, 11] (.l 4 [6, 3, 1] (.qs [9, 10] (.l 12 [1] (.l 13 [1] (.l 14 [] (.qs [15] (.l 16 [] .nil .no)) .no) .no) .no)) .no)) ?_ | refine ⟨by decide, ?_⟩ | refine ⟨fl.length, _, hmod, hlit, ?_⟩ | (refine CallOb.mk [0, 3, 4] (FlowO_ok L p5 hL hp5 (nms ls.length) ls fl (fname fl.length) k (by omega) (by omega)) rfl (ImpL.refl _) rfl rfl ?_; rintro _ _ ⟨⟨f, p6⟩, ⟨hF, hnm, hp6⟩, rfl, rfl⟩; dsimp only at hF hnm hp6 ⊢) | fail); all_goals try (conv => whnf)
    refine ⟨(fl ++ [f], p6), [0, 1, 2, 3, 5], ⟨by simp only [List.length_append, List.length_singleton]; omega, all_app fg hF, fun i hi => ?_, hp6⟩, by simp only [List.length_append, List.length_singleton]; omega, by dsimp only; rw [List.length_append, List.length_singleton, fls_app]; (exact aL)⟩
    simp only [List.length_append, List.length_singleton] at hi
    by_cases e : i = fl.length
    · subst e; simp [List.getD_eq_getElem?_getD, hnm]
    · have := fnm i (by omega)
      rw [← this]
      simp [List.getD_eq_getElem?_getD, List.getElem?_append_left (show i < fl.length by omega)]
  · (repeat' (conv => whnf); first | refine aC (fun _ => ?_) (fun _ => ?_) | refine aS ?_ | refine aG ?_ | refine aD ?_ | refine aH ?_ | refine aP_V2 ?_ | refine aI ?_ | refine aJ ?_ | refine aW (.qs [0, 1, 3, 4, 5, 6] (.l 2 [4, 1] (.qs [7, 8] (.l 9 [1] (.l 10 [] (.qs [11] (.l 12 [] .nil .no)) .no) .no)) .no)) ?_ | refine aW (.qs [0, 1, 2, 3] (.l 4 [1] (.l 5 [1] (.l 6 [] (.qs [7] (.l 8 [] .nil .no)) .no) .no) .no)) ?_ | refine aW (.qs [0, 1, 2, 3, 5, 6, 7, 8, 11] (.l 4 [6, 3, 1] (.qs [9, 10] (.l 12 [1] (.l 13 [1] (.l 14 [] (.qs [15] (.l 16 [] .nil .no)) .no) .no) .no)) .no)) ?_ | fail); all_goals try (conv => whnf)
    refine ⟨(⟨nms ls.length, ls, fl⟩, k, p5), ⟨⟨⟨⟨by dsimp only; omega, by dsimp only; omega⟩, ⟨by dsimp only; omega, by dsimp only; omega⟩, hnl, fun i hi => nms_get hi, fun l hl => ⟨(hg l hl).p.e, (hg l hl).p.n⟩, by dsimp only; omega, fnm, fg⟩, by dsimp only; omega, by dsimp only; omega, hg⟩, hp5⟩, rfl, rfl⟩
end Go.Proofs.YtaomhdljcdadaaaGreat
end
section
namespace Go.Mc
open Go.Pk Go.Np
/-! everything is sent in time, on lines in the order of arrival -/
theorem sumN_swap {f : Nat → Nat → Nat} {n : Nat} : ∀ m, sumN (fun l => sumN (fun i => f l i) n) m = sumN (fun i => sumN (fun l => f l i) m) n
  | 0 => by
    have : ∀ k, sumN (fun i => sumN (fun l => f l i) 0) k = 0 := by
      intro k; induction k with
      | zero => rfl
      | succ k ih => simp only [sumN] at *; omega
    rw [this]; rfl
  | m + 1 => by
    have hadd : ∀ (g h : Nat → Nat) k, sumN (fun i => g i + h i) k = sumN g k + sumN h k := by
      intro g h k; induction k with
      | zero => rfl
      | succ k ih => simp only [sumN] at *; omega
    show sumN (fun l => sumN (fun i => f l i) n) m + sumN (fun i => f m i) n = _
    rw [sumN_swap m, ← hadd]
    rfl
theorem sumN_list {s : Nat → Nat} {P : Nat → Bool} {n : Nat} : ∀ (L : List Nat), L.Nodup → (∀ x ∈ L, x < n ∧ P x = true) → (L.map s).sum ≤ sumN (fun i => if P i = true then s i else 0) n
  | [], _, _ => Nat.zero_le _
  | x :: L, hn, h => by
    rw [List.nodup_cons] at hn
    obtain ⟨h1, h2⟩ := h x (by simp)
    have ih := sumN_list (s := s) (P := fun i => P i && decide (i ≠ x)) (n := n) L hn.2 fun y hy => ⟨(h y (by simp [hy])).1, by
      simp only [Bool.and_eq_true, decide_eq_true_eq]
      exact ⟨(h y (by simp [hy])).2, fun e => hn.1 (e ▸ hy)⟩⟩
    have hu := sumN_upd (F := fun i => if P i = true then s i else 0) (G := fun i => if (P i && decide (i ≠ x)) = true then s i else 0) h1 fun j hj _ => by
      simp [hj]
    simp only [h2, if_true, ne_eq, not_true_eq_false, decide_false, Bool.and_false, Bool.false_eq_true, if_false] at hu
    rw [List.map_cons, List.sum_cons]
    simp only [ne_eq] at ih
    omega
theorem sumN_in {v : Nat} {n : Nat} : ∀ (L : List Nat), sumN (fun l => if l ∈ L then v else 0) n ≤ L.length * v
  | [] => by
    have : ∀ k, sumN (fun l => if l ∈ ([] : List Nat) then v else 0) k = 0 := by
      intro k; induction k with
      | zero => rfl
      | succ k ih => simp only [sumN] at *; rw [ih]; simp
    rw [this]; exact Nat.zero_le _
  | x :: L => by
    have ih := sumN_in (v := v) (n := n) L
    have hone : ∀ k, sumN (fun l => if l = x then v else 0) k ≤ v := by
      intro k
      have : ∀ k, k ≤ x → sumN (fun l => if l = x then v else 0) k = 0 := by
        intro k; induction k with
        | zero => intro _; rfl
        | succ k ih => intro h; simp only [sumN] at *; rw [ih (by omega), if_neg (by omega)]
      induction k with
      | zero => exact Nat.zero_le _
      | succ k ihk =>
        simp only [sumN]
        by_cases e : k = x
        · subst e; rw [if_pos rfl, this k (Nat.le_refl _)]; omega
        · rw [if_neg e]; exact ihk
    have hadd : ∀ k, sumN (fun l => if l ∈ x :: L then v else 0) k ≤ sumN (fun l => if l = x then v else 0) k + sumN (fun l => if l ∈ L then v else 0) k := by
      intro k; induction k with
      | zero => exact Nat.zero_le _
      | succ k ihk =>
        simp only [sumN, List.mem_cons] at *
        by_cases e1 : k = x
        · rw [if_pos (.inl e1), if_pos e1]; omega
        · by_cases e2 : k ∈ L
          · rw [if_pos (.inr e2), if_pos e2, if_neg e1]; omega
          · rw [if_neg (fun h => h.elim e1 e2), if_neg e1, if_neg e2]; omega
    have := hadd n
    have := hone n
    rw [List.length_cons, Nat.add_mul]; omega
theorem sumN_cons {G : Nat → Nat} : ∀ n, sumN G (n + 1) = G 0 + sumN (fun i => G (i + 1)) n
  | 0 => by simp [sumN]
  | n + 1 => by
    have := sumN_cons (G := G) n
    simp only [sumN] at *
    omega
theorem sumN_map {s : Nat → Nat} : ∀ {q : List Wt} {G : Nat → Nat}, (∀ k (hk : k < q.length), G k = s q[k].i) → sumN G q.length = ((q.map (·.i)).map s).sum
  | [], _, _ => rfl
  | x :: q, G, h => by
    rw [List.length_cons, sumN_cons, h 0 (by simp), sumN_map (q := q) (G := fun i => G (i + 1)) fun k hk => h (k + 1) (by simp; omega)]
    simp
theorem sumN_strict {f g : Nat → Nat} {j : Nat} : ∀ {n : Nat}, (∀ i, i < n → f i ≤ g i) → j < n → f j + 1 ≤ g j → sumN f n + 1 ≤ sumN g n
  | n + 1, h, hj, hlt => by
    simp only [sumN]
    rcases Nat.lt_succ_iff_lt_or_eq.1 hj with c | c
    · have := sumN_strict (f := f) (g := g) (n := n) (fun i hi => h i (by omega)) c hlt
      have := h n (by omega)
      omega
    · subst c
      have := sumN_le (F := f) (G := g) (n := j) fun i hi => h i (by omega)
      omega
theorem fifo_busy1 {p : List Pk} (hp : Asc p) {c t : Nat} {i : Nat} (hi : i < p.length) (ht : tm p i ≤ t) (h : (run fifoC p c t).dn i = -1) : (sel fifoC p t c (run fifoC p c t)).2 ≠ none := by
  unfold sel
  cases hc : (run fifoC p c t).cur with
  | some c0 => simp
  | none =>
    simp only
    have hI := run_inv hp (C := fifoC) (c := c) t
    have hb : (run fifoC p c t).bg i = false := by
      cases hb : (run fifoC p c t).bg i with
      | false => rfl
      | true =>
        obtain ⟨r, hr⟩ := hI.e i hb h
        rw [hc] at hr; cases hr
    cases hf : (fifoC.ch p t c (wt p t (run fifoC p c t).bg) (run fifoC p c t).s).2 with
    | some j => simp
    | none =>
      have : fst (wt p t (run fifoC p c t).bg) p.length = none := hf
      have := fst_none.1 this i hi
      have h2 := wt_iff.2 ⟨hi, ht, hb⟩
      rw [h2] at this; cases this
theorem ph_le {C : Ch} {p : List Pk} (hp : Asc p) (hs : Pos p) {c : Nat} : ∀ t, Ph p 1 (run C p c t) ≤ byt p
  | 0 => sumN_le fun i _ => by
      unfold ph
      simp [run]
  | t + 1 => Nat.le_trans (tk_ph hp hs 1 c (run_inv hp (C := C) (c := c) t).inT (run_rs hp hs t)).2.1 (ph_le hp hs t)
theorem tr_ends {F : Tf} {Z : Li} {N last : Nat} (hR : Rts F) (hL : LnP F Z) (hf : ∀ l, l < Z.n → Z.C l = fifoC ∧ 1 ≤ Z.c l) (hs : ∀ i, i < F.np → 1 ≤ F.s i) (ht : ∀ i, i < F.np → F.t i ≤ last) (h4 : ∀ i, i < F.np → (F.rt i).length ≤ 4)
    (hN : last + 4 * sumN (fun i => (F.s i).toNat) F.np + 1 ≤ N) : ∀ i h, i < F.np → h < (F.rt i).length → 0 ≤ tr F Z N i h := by
  intro i0 h0 hi0 hh0
  refine Classical.byContradiction fun hneg => ?_
  have hq := fun l => qu_ok F (tr F Z N) l
  have hasc := fun l => pkq_asc (F := F) (hq l).o
  have hpos : ∀ l, Pos (pkq F (qu F (tr F Z N) l)) := fun l k hk => by
    rw [pkq_len] at hk
    unfold sz
    rw [pkq_at hk]
    have := hs _ (((hq l).m _).1 (List.getElem_mem hk)).1
    simp only; omega
  have step : ∀ t, last ≤ t → t < N → sumN (fun l => Ph (pkq F (qu F (tr F Z N) l)) 1 (run fifoC (pkq F (qu F (tr F Z N) l)) (Z.c l) (t + 1))) Z.n + 1 ≤ sumN (fun l => Ph (pkq F (qu F (tr F Z N) l)) 1 (run fifoC (pkq F (qu F (tr F Z N) l)) (Z.c l) t)) Z.n := by
    intro t h1 h2
    have least : ∀ m, m ≤ h0 → (¬(0 ≤ tr F Z N i0 m ∧ tr F Z N i0 m < t)) → ∃ h, h ≤ h0 ∧ ¬(0 ≤ tr F Z N i0 h ∧ tr F Z N i0 h < t) ∧ ∀ j, j < h → 0 ≤ tr F Z N i0 j ∧ tr F Z N i0 j < t := by
      intro m
      induction m using Nat.strongRecOn with
      | ind m ih =>
        intro hm hno
        by_cases hall : ∀ j, j < m → 0 ≤ tr F Z N i0 j ∧ tr F Z N i0 j < t
        · exact ⟨m, hm, hno, hall⟩
        · obtain ⟨j, hj⟩ := Classical.not_forall.1 hall
          obtain ⟨hj1, hj2⟩ := Classical.not_imp.1 hj
          exact ih j hj1 (by omega) hj2
    obtain ⟨h, hh, hno, hall⟩ := least h0 (Nat.le_refl _) (fun k => hneg k.1)
    have hhl : h < (F.rt i0).length := by omega
    obtain ⟨a, ha, hat⟩ : ∃ a : Int, arr F (tr F Z N) i0 h = some a ∧ a ≤ t := by
      unfold arr
      by_cases e : h = 0
      · rw [if_pos e]; exact ⟨_, rfl, by have := ht i0 hi0; omega⟩
      · rw [if_neg e, if_pos fun j hj => (hall j hj).1]
        exact ⟨_, rfl, by have := (hall (h - 1) (by omega)).2; omega⟩
    have hpl := hp_lin hR hi0 hhl
    have hm : (⟨a, F.fl i0, i0⟩ : Wt) ∈ qu F (tr F Z N) (lin F i0 h) := ((hq _).m _).2 ⟨hi0, ⟨h, hpl, ha⟩, rfl⟩
    have hlz := hL i0 h hi0 hhl
    have hD := tr_con hR Z N i0 h hi0 hhl
    generalize lin F i0 h = l at *
    obtain ⟨k, hk, hke⟩ := List.mem_iff_getElem.1 hm
    have hpc := (hq l).plc hk
    rw [hke] at hpc
    unfold pas at hD
    rw [hpc, (hf l hlz).1] at hD
    simp only at hD
    have hkp : k < (pkq F (qu F (tr F Z N) l)).length := by rw [pkq_len]; exact hk
    have hdn : (run fifoC (pkq F (qu F (tr F Z N) l)) (Z.c l) t).dn k = -1 := by
      rw [run_cut (hasc l) (Nat.le_of_lt h2), ← hD, if_neg hno]
    have htm : tm (pkq F (qu F (tr F Z N) l)) k ≤ t := by
      unfold tm
      rw [pkq_at hk, hke]; exact hat
    have hb := fifo_busy1 (hasc l) (c := Z.c l) hkp htm hdn
    refine sumN_strict (j := l) (fun m hm => (tk_ph (hasc m) (hpos m) 1 (Z.c m) (run_inv (hasc m) (C := fifoC) (c := Z.c m) t).inT (run_rs (hasc m) (hpos m) t)).2.1) hlz ?_
    have := (tk_ph (hasc l) (hpos l) 1 (Z.c l) (run_inv (hasc l) (C := fifoC) (c := Z.c l) t).inT (run_rs (hasc l) (hpos l) t)).2.2 (hf l hlz).2 hb
    have e : run fifoC (pkq F (qu F (tr F Z N) l)) (Z.c l) (t + 1) = tk fifoC (pkq F (qu F (tr F Z N) l)) t (Z.c l) (run fifoC (pkq F (qu F (tr F Z N) l)) (Z.c l) t) := rfl
    simp only [e]
    omega
  have down : ∀ k, last + k ≤ N → sumN (fun l => Ph (pkq F (qu F (tr F Z N) l)) 1 (run fifoC (pkq F (qu F (tr F Z N) l)) (Z.c l) (last + k))) Z.n + k ≤ sumN (fun l => Ph (pkq F (qu F (tr F Z N) l)) 1 (run fifoC (pkq F (qu F (tr F Z N) l)) (Z.c l) last)) Z.n := by
    intro k
    induction k with
    | zero => intro _; exact Nat.le_refl _
    | succ k ih =>
      intro hk
      have := ih (by omega)
      have := step (last + k) (by omega) (by omega)
      rw [show last + k + 1 = last + (k + 1) by omega] at this
      omega
  have top : sumN (fun l => Ph (pkq F (qu F (tr F Z N) l)) 1 (run fifoC (pkq F (qu F (tr F Z N) l)) (Z.c l) last)) Z.n ≤ 4 * sumN (fun i => (F.s i).toNat) F.np := by
    have e1 : sumN (fun l => Ph (pkq F (qu F (tr F Z N) l)) 1 (run fifoC (pkq F (qu F (tr F Z N) l)) (Z.c l) last)) Z.n ≤ sumN (fun l => sumN (fun i => if decide (l ∈ F.rt i) = true then (F.s i).toNat else 0) F.np) Z.n := by
      refine sumN_le fun l _ => Nat.le_trans (ph_le (hasc l) (hpos l) last) ?_
      unfold byt
      rw [pkq_len, sumN_map (q := qu F (tr F Z N) l) (s := fun i => (F.s i).toNat) fun k hk => by unfold sz; rw [pkq_at hk]]
      refine sumN_list _ ?_ fun x hx => ?_
      · refine List.pairwise_iff_getElem.2 fun a b ha hb hab => ?_
        rw [List.length_map] at ha hb
        rw [List.getElem_map, List.getElem_map]
        intro e
        have := (hq l).inj ha hb e
        omega
      · obtain ⟨y, hy, rfl⟩ := List.mem_map.1 hx
        obtain ⟨a1, ⟨u, a2, _⟩, _⟩ := ((hq l).m y).1 hy
        refine ⟨a1, decide_eq_true ?_⟩
        unfold hp at a2
        split at a2
        · assumption
        · cases a2
    rw [sumN_swap] at e1
    refine Nat.le_trans e1 ?_
    have e2 : ∀ k, k ≤ F.np → sumN (fun i => sumN (fun l => if decide (l ∈ F.rt i) = true then (F.s i).toNat else 0) Z.n) k ≤ 4 * sumN (fun i => (F.s i).toNat) k := by
      intro k
      induction k with
      | zero => intro _; exact Nat.zero_le _
      | succ k ih =>
        intro hk
        have := ih (by omega)
        have h1 := sumN_in (v := (F.s k).toNat) (n := Z.n) (F.rt k)
        have h2 := Nat.mul_le_mul_right (F.s k).toNat (h4 k (by omega))
        simp only [sumN, decide_eq_true_eq] at *
        omega
    exact e2 F.np (Nat.le_refl _)
  have := down (N - last) (by omega)
  omega
end Go.Mc
end
