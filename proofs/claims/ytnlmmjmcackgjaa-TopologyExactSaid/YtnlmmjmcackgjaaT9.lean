/-
  A text of the proofs of this seat: lemmas that the statements' proofs use; it states nothing of the program by itself beyond the contracts that its theorems bear. Conditions: those that stand in each theorem. Its short name: T9.
-/
import Derived.Test.YtnlmmjmcackgjaaT8
import Derived.Test.YtnlmmjmcackgjaaPl
import Derived.Test.YtnlmmjmcackgjaaKs
set_option linter.unusedVariables false
set_option linter.unusedSimpArgs false
namespace Go.Proofs.Ytnlmmjmcackgjaa
open Go.Sx Go.Np Go.Tp
set_option maxRecDepth 4000
set_option maxHeartbeats 2000000
abbrev rws (R : List (List Int)) : List (List SV) := R.map fun r => [.psl 1 (ints r)]
theorem rws_len (R : List (List Int)) : (rws R).length = R.length := by simp [rws]
theorem rws_get {R : List (List Int)} {i : Nat} (h : i < R.length) : (rws R)[i]? = some [.psl 1 (ints (R.getD i []))] := by simp [rws, h]
theorem rws_app (R R' : List (List Int)) : rws (R ++ R') = rws R ++ rws R' := by simp [rws]
theorem ba_l : ∀ i < 8, baOf [97 + ((i : Nat) : Int)] = lname i := by decide +kernel
theorem ba_f : ∀ i < 12, baOf [102 + ((i : Nat) : Int)] = fname i := by decide +kernel
theorem nms_app {t : Nat} : strs (nms (t + 1)) = strs (nms t) ++ [[.str (lname t)]] := by rw [nms_succ, strs_app]; rfl
abbrev lrow : List SV := [i64 1, i64 10, i64 1, .nil, .nil]
theorem rep_app {t : Nat} : List.replicate (t + 1) lrow = List.replicate t lrow ++ [lrow] := List.replicate_succ'
theorem rep_imp : ∀ t, ImpR (List.replicate t lrow) (lns (List.replicate t rtl))
  | 0 => trivial
  | t + 1 => ⟨⟨Imp.refl _, Imp.refl _, Imp.refl _, Imp.nil _, Imp.nil _, trivial⟩, rep_imp t⟩
theorem aP_T9 {A B K : Prop} (k : K) (a : A := by (simp only [zA, zT, zD, zC, zN, ints_len, zR, lnl, fll, stl]; omega)) (b : B := by (simp only [zA, zT, zD, zC, zN, ints_len, zR, lnl, fll, stl]; omega)) : (A ∧ B) ∧ K := ⟨⟨a, b⟩, k⟩
theorem lroute_ok (k : Nat) (hk : k ≤ 8) (R : List (List Int)) (hR : R.length ≤ 12) : Ctr Try.prog 32 [i64 k, .psl 1 (rws R)] [] (fun r o => o = [] ∧ r = ntv (rtN k R)) := by
  refine Ctr.imp ?_
  refine fn_intro (E := env 0) tys_ok rfl rfl rfl Try.func32 (by kernel_rfl) rfl (by kernel_rfl) ?_
  have hrl := rws_len R
  (repeat' (conv => whnf); first | (refine aC (fun _ => ?_) (fun _ => ?_) <;> try (exfalso; omega)) | refine aS ?_ | refine aG ?_ | refine aD ?_ | refine aP_T9 ?_ | refine aI ?_ | refine aJ ?_ | fail); all_goals try (conv => whnf)
  refine .mk [.nb 1 0 1, .nb 1 1 5, .nb 1 2 8] ?_
  refine LoopOb.mk (Y := Nat) (st := fun i => ⟨[(6, i64 i), (5, .ptr 1 0), (4, .ptr 0 0), (0, i64 k), (1, .psl 1 (rws R))], [.box [.nil, .nil, .nil], .box [.vec 2, .vec 3, .vec 4], .vec 1 (strs (nms i)), .vec 5 (List.replicate i lrow), .vec 8 []]⟩)
    (inv := fun i => i ≤ k) (fun i => k - i) 0 [0, 1, 2, 3, 4] (by omega) (by (exact aL)) ?_
  intro i hi
  have hsl := stl (nms i)
  have hnl := nms_len (t := i)
  have hll : (List.replicate i lrow).length = i := List.length_replicate
  (repeat' (conv => whnf); first | refine aS ?_ | refine aG ?_ | refine aD ?_ | refine aH ?_ | refine aP_T9 ?_ | refine aI ?_ | refine aJ ?_ | fail); all_goals try (conv => whnf)
  refine CondOb.mk (fun hlt => ?_) (fun hlt => ?_)
  · have hb := ba_l i (by omega)
    (repeat' (conv => whnf); first | (refine aC (fun _ => ?_) (fun _ => ?_) <;> try (exfalso; omega)) | refine aS ?_ | refine aG ?_ | refine aD ?_ | refine aH ?_ | refine aP_T9 ?_ | refine aI ?_ | refine aJ ?_ | refine ⟨[97 + (i : Int)], rfl, ?_⟩ | fail); all_goals try (conv => whnf)
    rw [hb]
    exact ⟨i + 1, [0, 1, 7, 9, 4], by omega, by omega, by rw [nms_app, rep_app]; (exact aL)⟩
  · have hik : i = k := by omega
    subst hik
    (repeat' (conv => whnf); first | (refine aC (fun _ => ?_) (fun _ => ?_) <;> try (exfalso; omega)) | refine aS ?_ | refine aG ?_ | refine aD ?_ | refine aP_T9 ?_ | refine aI ?_ | refine aJ ?_ | fail); all_goals try (conv => whnf)
    refine .mk [.fz 2, .fz 3] ?_
    refine LoopOb.mk (Y := Nat) (st := fun j => ⟨[(32, i64 j), (31, i64 (rws R).length), (30, .psl 1 (rws R)), (5, .ptr 1 0), (4, .ptr 0 0)], [.box [.nil, .nil, .nil], .box [.psl 1 (strs (nms i)), .psl 5 (List.replicate i lrow), .vec 2], .vec 8 (fls (rtfs R j))]⟩)
      (inv := fun j => j ≤ R.length) (fun j => R.length - j) 0 [0, 1, 4] (by omega) (by (exact aL)) ?_
    intro j hj
    have hfl := fll (rtfs R j)
    have hrf := rtfs_len (R := R) (i := j)
    (repeat' (conv => whnf); first | refine aS ?_ | refine aG ?_ | refine aD ?_ | refine aH ?_ | refine aP_T9 ?_ | refine aI ?_ | refine aJ ?_ | fail); all_goals try (conv => whnf)
    refine CondOb.mk (fun hlt2 => ?_) (fun hlt2 => ?_)
    · have hjR : j < R.length := by omega
      have hg := rws_get hjR
      have hb := ba_f j (by omega)
      have hst : fls (rtfs R (j + 1)) = fls (rtfs R j) ++ [flv (rt1 j (R.getD j []))] := by simp [fls, rtfs]
      (repeat' (conv => whnf); first | (refine aC (fun _ => ?_) (fun _ => ?_) <;> try (exfalso; omega)) | refine aS ?_ | refine aG ?_ | refine aD ?_ | refine aH ?_ | refine aP_T9 ?_ | refine aI ?_ | refine aJ ?_ | refine aW (.qs [0, 1, 2, 3, 4, 7, 8] (.l 5 [1] (.l 6 [1] (.l 9 [1] (.qs [10] (.l 11 [1] (.l 12 [] (.qs [13] (.l 14 [] .nil .no)) .no) .no)) .no) (.l 9 [1] (.l 6 [1] (.qs [10] (.l 11 [1] (.l 12 [] (.qs [13] (.l 14 [] .nil .no)) .no) .no)) .no) .no)) (.l 9 [1] (.l 5 [1] (.l 6 [1] (.qs [10] (.l 11 [1] (.l 12 [] (.qs [13] (.l 14 [] .nil .no)) .no) .no)) .no) .no) .no))) ?_ | refine ⟨[102 + (j : Int)], rfl, ?_⟩ | refine ⟨j, _, rfl, hg, ?_⟩ | (refine aK [] (Stair_ok 4 1 0 (by omega)) ?_) | refine And.intro ?_ ?_ | fail); all_goals try (conv => whnf)
      all_goals rw [hb]
      all_goals exact ⟨j + 1, [0, 1, 5], by omega, by omega, by rw [hst]; (exact aL)⟩
    · (repeat' (conv => whnf); first | (refine aC (fun _ => ?_) (fun _ => ?_) <;> try (exfalso; omega)) | refine aS ?_ | refine aG ?_ | refine aD ?_ | refine aP_T9 ?_ | refine aI ?_ | refine aJ ?_ | fail); all_goals try (conv => whnf)
      refine .mk [.fa] ?_
      have : j = R.length := by omega
      subst this
      (repeat' (conv => whnf); first | (refine aC (fun _ => ?_) (fun _ => ?_) <;> try (exfalso; omega)) | refine aS ?_ | refine aG ?_ | refine aD ?_ | refine aH ?_ | refine aP_T9 ?_ | refine aI ?_ | refine aJ ?_ | fail); all_goals try (conv => whnf)
      exact ⟨rfl, Imp.agg ⟨Imp.refl _, Imp.pslr (rep_imp i), Imp.refl _, trivial⟩⟩
end Go.Proofs.Ytnlmmjmcackgjaa
