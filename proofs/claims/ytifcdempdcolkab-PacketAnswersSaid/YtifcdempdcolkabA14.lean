/-
  A text of the proofs of this seat: lemmas that the statements' proofs use; it states nothing of the program by itself beyond the contracts that its theorems bear. Conditions: those that stand in each theorem. Its short name: A14.
-/
import Derived.Test.YtifcdempdcolkabA13
import Derived.Test.YtifcdempdcolkabPl
set_option linter.unusedVariables false
set_option linter.unusedSimpArgs false
namespace Go.Proofs.Ytifcdempdcolkab
open Go.Sx Go.Pk Go.Cv Go.St
set_option maxRecDepth 4000
set_option maxHeartbeats 2000000
--APPX avs_len
theorem aP_A14 {A B K : Prop} (k : K) (a : A := by (simp only [zA, zT, zD, zC, zN, ints_len, zR, avs_len]; omega)) (b : B := by (simp only [zA, zT, zD, zC, zN, ints_len, zR, avs_len]; omega)) : (A ∧ B) ∧ K := ⟨⟨a, b⟩, k⟩
theorem aStableN_ok (g : Nat) (k : Av → Int) (hc : aCmpOK g k) (l : List Av) (hl : l.length ≤ 100000) :
    Ctr Try.prog 62 [.vec 0, i64 l.length, .fn g []] [.vec 4 (avs l)] (fun r o => o = [.vec 4 (avs (srt k l))] ∧ r = .tup []) := by
  refine fn_intro (E := env 1) tys_ok rfl rfl rfl Try.func62 (by kernel_rfl) rfl (by kernel_rfl) ?_
  (repeat' (conv => whnf); first | (refine aC (fun _ => ?_) (fun _ => ?_) <;> try (exfalso; omega)) | refine aS ?_ | refine aG ?_ | refine aD ?_ | refine aH ?_ | refine aP_A14 ?_ | refine aI ?_ | refine aJ ?_ | fail); all_goals try (conv => whnf)
  refine LoopOb.mk (Y := List Av × List Av) (st := fun y => ⟨[(8, i64 (y.1.length + 20 : Nat)), (7, i64 y.1.length), (6, i64 20), (0, .vec 0), (1, i64 l.length), (2, .fn g [])], [.vec 4 (avs (y.1 ++ y.2))]⟩)
    (inv := fun y => (y.1.length + y.2.length = l.length) ∧ y.1 ++ sb k 20 y.2 = sb k 20 l) (fun y => y.2.length) ([], l) [0] ⟨by simp, rfl⟩ (by dsimp only; (exact aL)) ?_
  rintro ⟨d, t⟩ ⟨hlen, he⟩
  dsimp only at hlen he ⊢
  (repeat' (conv => whnf); first | refine aS ?_ | refine aG ?_ | refine aD ?_ | refine aH ?_ | refine aP_A14 ?_ | refine aI ?_ | refine aJ ?_ | fail); all_goals try (conv => whnf)
  refine CondOb.mk (fun hlt => ?_) (fun hlt => ?_)
  · have h20 : 20 ≤ t.length := by omega
    have l1 : (t.take 20).length = 20 := by rw [List.length_take]; omega
    have l2 : (t.drop 20).length = t.length - 20 := List.length_drop
    have hI := ainsSort_ok g k hc d (t.take 20) (t.drop 20) (by omega)
    rw [List.take_append_drop, l1] at hI
    have e2 : d ++ (srt k (t.take 20) ++ t.drop 20) = (d ++ srt k (t.take 20)) ++ t.drop 20 := by rw [List.append_assoc]
    rw [e2] at hI
    have ls : (d ++ srt k (t.take 20)).length = d.length + 20 := by rw [List.length_append, srt_len, l1]
    rw [sb_ge (by omega) h20, ← List.append_assoc] at he
    generalize d ++ srt k (t.take 20) = d' at *
    generalize t.drop 20 = t' at *
    (repeat' (conv => whnf); first | (refine aC (fun _ => ?_) (fun _ => ?_) <;> try (exfalso; omega)) | refine aS ?_ | refine aG ?_ | refine aD ?_ | refine aH ?_ | refine aP_A14 ?_ | refine aI ?_ | refine aJ ?_ | (refine aK [0] hI ?_) | fail); all_goals try (conv => whnf)
    exact ⟨(d', t'), [0], ⟨by dsimp only; omega, he⟩, by dsimp only; omega, by dsimp only; (exact aL)⟩
  · have hI := ainsSort_ok g k hc d t [] (by simp only [List.length_nil]; omega)
    rw [sb_small (l := t) (by omega)] at he
    rw [List.append_nil, List.append_nil, he, hlen] at hI
    (repeat' (conv => whnf); first | (refine aC (fun _ => ?_) (fun _ => ?_) <;> try (exfalso; omega)) | refine aS ?_ | refine aG ?_ | refine aD ?_ | refine aH ?_ | refine aP_A14 ?_ | refine aI ?_ | refine aJ ?_ | (refine aK [0] hI ?_) | fail); all_goals try (conv => whnf)
    refine LoopOb.mk (Y := Nat) (st := fun s => ⟨[(6, i64 s), (0, .vec 0), (1, i64 l.length), (2, .fn g [])], [.vec 4 (avs (sb k s l))]⟩) (inv := fun s => 20 ≤ s ∧ s ≤ 200000) (fun s => l.length - s) 20 [0] ⟨by omega, by omega⟩ (by (exact aL)) ?_
    clear hI he hlen hlt
    intro s hs
    (repeat' (conv => whnf); first | refine aS ?_ | refine aG ?_ | refine aD ?_ | refine aH ?_ | refine aP_A14 ?_ | refine aI ?_ | refine aJ ?_ | fail); all_goals try (conv => whnf)
    refine CondOb.mk (fun hlt => ?_) (fun hlt => ?_)
    · (repeat' (conv => whnf); first | (refine aC (fun _ => ?_) (fun _ => ?_) <;> try (exfalso; omega)) | refine aS ?_ | refine aG ?_ | refine aD ?_ | refine aH ?_ | refine aP_A14 ?_ | refine aI ?_ | refine aJ ?_ | fail); all_goals try (conv => whnf)
      refine LoopOb.mk (Y := List Av × List Av) (st := fun y => ⟨[(8, i64 (y.1.length + 2 * s : Nat)), (7, i64 y.1.length), (6, i64 s), (0, .vec 0), (1, i64 l.length), (2, .fn g [])], [.vec 4 (avs (y.1 ++ sb k s y.2))]⟩)
        (inv := fun y => (y.1.length + y.2.length = l.length) ∧ y.1 ++ sb k (2 * s) y.2 = sb k (2 * s) l) (fun y => y.2.length) ([], l) [0] ⟨by simp, rfl⟩ (by dsimp only [List.length_nil, List.nil_append]; (exact aL)) ?_
      rintro ⟨d, t⟩ ⟨hlen, he⟩
      dsimp only at hlen he ⊢
      (repeat' (conv => whnf); first | refine aS ?_ | refine aG ?_ | refine aD ?_ | refine aH ?_ | refine aP_A14 ?_ | refine aI ?_ | refine aJ ?_ | fail); all_goals try (conv => whnf)
      refine CondOb.mk (fun hl2 => ?_) (fun hl2 => ?_)
      · have h2s : 2 * s ≤ t.length := by omega
        obtain ⟨e1, e2⟩ := sb_two (k := k) (by omega) h2s
        have l1 : (srt k (t.take s)).length = s := by rw [srt_len, List.length_take]; omega
        have l2 : (srt k ((t.drop s).take s)).length = s := by rw [srt_len, List.length_take, List.length_drop]; omega
        have l3 : (t.drop (2 * s)).length = t.length - 2 * s := List.length_drop
        have l4 := sb_len (k := k) (s := s) (by omega) (t.drop (2 * s))
        have hM := asymM_ok g k hc (2 * s) d (srt k (t.take s)) (srt k ((t.drop s).take s)) (sb k s (t.drop (2 * s))) (by omega) (by omega) (by omega) (srt_sorted _ _) (srt_sorted _ _) (by omega)
        have ls : (d ++ srt k (srt k (t.take s) ++ srt k ((t.drop s).take s))).length = d.length + 2 * s := by rw [List.length_append, srt_len, List.length_append]; omega
        rw [l1, l2, ← List.append_assoc d (srt k (srt k (t.take s) ++ srt k ((t.drop s).take s)))] at hM
        rw [e2, ← List.append_assoc] at he
        rw [e1]
        generalize d ++ srt k (srt k (t.take s) ++ srt k ((t.drop s).take s)) = d' at *
        generalize srt k (t.take s) = A at *
        generalize srt k ((t.drop s).take s) = B at *
        generalize t.drop (2 * s) = t' at *
        (repeat' (conv => whnf); first | (refine aC (fun _ => ?_) (fun _ => ?_) <;> try (exfalso; omega)) | refine aS ?_ | refine aG ?_ | refine aD ?_ | refine aH ?_ | refine aP_A14 ?_ | refine aI ?_ | refine aJ ?_ | (refine CallOb.mk [0] hM rfl ⟨Imp.refl _, Imp.refl _, Imp.num (by omega), Imp.num (by omega), Imp.refl _, trivial⟩ rfl rfl ?_; rintro _ _ ⟨rfl, rfl⟩) | fail); all_goals try (conv => whnf)
        exact ⟨(d', t'), [0], ⟨by dsimp only; omega, he⟩, by dsimp only; omega, by dsimp only; (exact aL)⟩
      · by_cases hm : s < t.length
        · obtain ⟨e1, e2⟩ := sb_tail (k := k) (by omega) hm (by omega)
          have l1 : (srt k (t.take s)).length = s := by rw [srt_len, List.length_take]; omega
          have l2 : (srt k (t.drop s)).length = t.length - s := by rw [srt_len, List.length_drop]
          have hM := asymM_ok g k hc (2 * s) d (srt k (t.take s)) (srt k (t.drop s)) [] (by omega) (by omega) (by omega) (srt_sorted _ _) (srt_sorted _ _) (by simp only [List.length_nil]; omega)
          rw [l1, l2, List.append_nil, List.append_nil, ← e2, ← e1, he] at hM
          (repeat' (conv => whnf); first | (refine aC (fun _ => ?_) (fun _ => ?_) <;> try (exfalso; omega)) | refine aS ?_ | refine aG ?_ | refine aD ?_ | refine aH ?_ | refine aP_A14 ?_ | refine aI ?_ | refine aJ ?_ | (refine CallOb.mk [0] hM rfl ⟨Imp.refl _, Imp.refl _, Imp.num (by omega), Imp.num (by omega), Imp.refl _, trivial⟩ rfl rfl ?_; rintro _ _ ⟨rfl, rfl⟩) | fail); all_goals try (conv => whnf)
          exact ⟨2 * s, [0], ⟨by omega, by omega⟩, by omega, by (exact aL)⟩
        · rw [sb_last (by omega), he]
          (repeat' (conv => whnf); first | (refine aC (fun _ => ?_) (fun _ => ?_) <;> try (exfalso; omega)) | refine aS ?_ | refine aG ?_ | refine aD ?_ | refine aH ?_ | refine aP_A14 ?_ | refine aI ?_ | refine aJ ?_ | fail); all_goals try (conv => whnf)
          exact ⟨2 * s, [0], ⟨by omega, by omega⟩, by omega, by (exact aL)⟩
    · rw [sb_small (by omega)]
      (repeat' (conv => whnf); first | (refine aC (fun _ => ?_) (fun _ => ?_) <;> try (exfalso; omega)) | refine aS ?_ | refine aG ?_ | refine aD ?_ | refine aH ?_ | refine aP_A14 ?_ | refine aI ?_ | refine aJ ?_ | fail); all_goals try (conv => whnf)
      exact ⟨rfl, rfl⟩
theorem aSortStableN_ok (g : Nat) (k : Av → Int) (hc : aCmpOK g k) (l : List Av) (hl : l.length ≤ 100000) :
    Ctr Try.prog 45 [.vec 0, .fn g []] [.vec 4 (avs l)] (fun r o => o = [.vec 4 (avs (srt k l))] ∧ r = .tup []) := by
  refine fn_intro (E := env 1) tys_ok rfl rfl rfl Try.func45 (by kernel_rfl) rfl (by kernel_rfl) ?_
  have hpl := avs_len l
  have cS := aStableN_ok g k hc l hl
  (repeat' (conv => whnf); first | (refine aC (fun _ => ?_) (fun _ => ?_) <;> try (exfalso; omega)) | refine aS ?_ | refine aG ?_ | refine aD ?_ | refine aH ?_ | refine aP_A14 ?_ | refine aI ?_ | refine aJ ?_ | (refine CallOb.mk [0] cS rfl ⟨Imp.refl _, Imp.num (by omega), Imp.refl _, trivial⟩ rfl rfl ?_; rintro _ _ ⟨rfl, rfl⟩) | fail); all_goals try (conv => whnf)
  exact ⟨rfl, rfl⟩
end Go.Proofs.Ytifcdempdcolkab
