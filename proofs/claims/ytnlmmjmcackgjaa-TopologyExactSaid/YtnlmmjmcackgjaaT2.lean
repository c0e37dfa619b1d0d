/-
  A text of the proofs of this seat: lemmas that the statements' proofs use; it states nothing of the program by itself beyond the contracts that its theorems bear. Conditions: those that stand in each theorem. Its short name: T2.
-/
import Derived.Test.YtnlmmjmcackgjaaT1
set_option linter.unusedVariables false
set_option linter.unusedSimpArgs false
namespace Go.Proofs.Ytnlmmjmcackgjaa
open Go.Sx Go.Np Go.Tp
set_option maxRecDepth 4000
set_option maxHeartbeats 2000000
abbrev eds (l : List Ed) : List (List SV) := l.map fun e => [i64 e.1, i64 e.2]
theorem eds_len (l : List Ed) : (eds l).length = l.length := by simp [eds]
theorem eds_app (l l' : List Ed) : eds (l ++ l') = eds l ++ eds l' := by simp [eds]
theorem eds_get {l : List Ed} {i : Nat} (h : i < l.length) : (eds l)[i]? = some [i64 (l.getD i (0, 0)).1, i64 (l.getD i (0, 0)).2] := by simp [eds, h]
theorem aP_T2 {A B K : Prop} (k : K) (a : A := by (simp only [zA, zT, zD, zC, zN, ints_len, zR, lnl, fll, stl]; omega)) (b : B := by (simp only [zA, zT, zD, zC, zN, ints_len, zR, lnl, fll, stl]; omega)) : (A ∧ B) ∧ K := ⟨⟨a, b⟩, k⟩
theorem gedges_ok (m : Nat) (hm : m ≤ 1000) (E : Gr) : Ctr Try.prog 57 [.psl 1 (gps m m E)] [] (fun r o => o = [] ∧ r = .psl 2 (eds (edg E m m))) := by
  refine Ctr.imp ?_
  refine fn_intro (E := env 0) tys_ok rfl rfl rfl Try.func57 (by kernel_rfl) rfl (by kernel_rfl) ?_
  have hgl := gps_len m m E
  (repeat' (conv => whnf); first | refine aC (fun _ => ?_) (fun _ => ?_) | refine aS ?_ | refine aG ?_ | refine aD ?_ | refine aH ?_ | refine aP_T2 ?_ | refine aI ?_ | refine aJ ?_ | fail); all_goals try (conv => whnf)
  refine LoopOb.mk (Y := Nat) (st := fun a => ⟨[(9, i64 a), (8, i64 (gps m m E).length), (3, .vec 0), (0, .psl 1 (gps m m E))], [.vec 2 (eds (edg E m a))]⟩)
    (inv := fun a => a ≤ m) (fun a => m - a) 0 [1] (by omega) (by (exact aL)) ?_
  intro a ha
  have hel := edg_len (E := E) (m := m) (a := a)
  have hle := eds_len (edg E m a)
  have hmm : a * m ≤ 1000 * 1000 := Nat.mul_le_mul (by omega) hm
  (repeat' (conv => whnf); first | refine aS ?_ | refine aG ?_ | refine aD ?_ | refine aH ?_ | refine aP_T2 ?_ | refine aI ?_ | refine aJ ?_ | fail); all_goals try (conv => whnf)
  refine CondOb.mk (fun hlt => ?_) (fun hlt => ?_)
  · have ham : a < m := by omega
    have hg := gps_get (n := m) (m := m) (E := E) ham
    have hbl := bls_len m (E a)
    (repeat' (conv => whnf); first | (refine aC (fun _ => ?_) (fun _ => ?_) <;> try (exfalso; omega)) | refine aS ?_ | refine aG ?_ | refine aD ?_ | refine aH ?_ | refine aP_T2 ?_ | refine aI ?_ | refine aJ ?_ | refine ⟨a, _, rfl, hg, ?_⟩ | fail); all_goals try (conv => whnf)
    refine LoopOb.mk (Y := Nat) (st := fun b => ⟨[(17, i64 b), (16, i64 (bls m (E a)).length), (15, .psl 1 (bls m (E a))), (4, i64 a), (9, i64 a), (8, i64 (gps m m E).length), (3, .vec 0), (0, .psl 1 (gps m m E))], [.vec 2 (eds (edg E m a ++ er E a b))]⟩)
      (inv := fun b => b ≤ m) (fun b => m - b) 0 [0] (by omega) (by rw [show er E a 0 = [] from rfl, List.append_nil]; (exact aL)) ?_
    intro b hb
    have hel2 := er_len (E := E) (a := a) (b := b)
    have hle2 := eds_len (edg E m a ++ er E a b)
    rw [List.length_append] at hle2
    (repeat' (conv => whnf); first | refine aS ?_ | refine aG ?_ | refine aD ?_ | refine aH ?_ | refine aP_T2 ?_ | refine aI ?_ | refine aJ ?_ | fail); all_goals try (conv => whnf)
    refine CondOb.mk (fun hlt2 => ?_) (fun hlt2 => ?_)
    · have hbm : b < m := by omega
      have hg2 := bls_get (f := E a) hbm
      have hs : er E a (b + 1) = if E a b = true then er E a b ++ [(a, b)] else er E a b := rfl
      cases hab : E a b <;> rw [hab] at hg2 hs
      · (repeat' (conv => whnf); first | (refine aC (fun _ => ?_) (fun _ => ?_) <;> try (exfalso; omega)) | refine aS ?_ | refine aG ?_ | refine aD ?_ | refine aH ?_ | refine aP_T2 ?_ | refine aI ?_ | refine aJ ?_ | refine ⟨b, _, rfl, hg2, ?_⟩ | fail); all_goals try (conv => whnf)
        exact ⟨b + 1, [0], by omega, by omega, by rw [hs]; (exact aL)⟩
      · (repeat' (conv => whnf); first | (refine aC (fun _ => ?_) (fun _ => ?_) <;> try (exfalso; omega)) | refine aS ?_ | refine aG ?_ | refine aD ?_ | refine aH ?_ | refine aP_T2 ?_ | refine aI ?_ | refine aJ ?_ | refine ⟨b, _, rfl, hg2, ?_⟩ | fail); all_goals try (conv => whnf)
        exact ⟨b + 1, [2], by omega, by omega, by rw [hs, if_pos rfl, ← List.append_assoc, eds_app (edg E m a ++ er E a b) [(a, b)]]; (exact aL)⟩
    · (repeat' (conv => whnf); first | refine aC (fun _ => ?_) (fun _ => ?_) | refine aS ?_ | refine aG ?_ | refine aD ?_ | refine aH ?_ | refine aP_T2 ?_ | refine aI ?_ | refine aJ ?_ | fail); all_goals try (conv => whnf)
      have : b = m := by omega
      subst this
      exact ⟨a + 1, [0], by omega, by omega, by (exact aL)⟩
  · (repeat' (conv => whnf); first | refine aC (fun _ => ?_) (fun _ => ?_) | refine aS ?_ | refine aG ?_ | refine aD ?_ | refine aP_T2 ?_ | refine aI ?_ | refine aJ ?_ | fail); all_goals try (conv => whnf)
    refine .mk [.fa] ?_
    have : a = m := by omega
    subst this
    exact ⟨rfl, Imp.refl _⟩
theorem tEdges_ok (n : Nt) (hn : NL n) (h : chkN n = 0) : Ctr Try.prog 24 [ntv n] [] (fun r o => o = [] ∧ r = .psl 2 (eds (edg (adj n) n.ln.length n.ln.length))) := by
  refine Ctr.imp ?_
  refine fn_intro (E := env 0) tys_ok rfl rfl rfl Try.func24 (by kernel_rfl) rfl (by kernel_rfl) ?_
  have hL := (chkN_zero h).1
  (repeat' (conv => whnf); first | refine aC (fun _ => ?_) (fun _ => ?_) | refine aS ?_ | refine aG ?_ | refine aD ?_ | refine aH ?_ | refine aP_T2 ?_ | refine aI ?_ | refine aJ ?_ | (refine aK [] (of_ok n hn h) ?_) | (refine aK [] (gedges_ok n.ln.length (by omega) (adj n)) ?_) | fail); all_goals try (conv => whnf)
  exact ⟨rfl, Imp.refl _⟩
theorem tEdges_err (n : Nt) (hn : NL n) (h : chkN n ≠ 0) : Ctr Try.prog 24 [ntv n] [] (fun r o => o = [] ∧ r = .psl 2 (eds [])) := by
  refine Ctr.imp ?_
  refine fn_intro (E := env 0) tys_ok rfl rfl rfl Try.func24 (by kernel_rfl) rfl (by kernel_rfl) ?_
  (repeat' (conv => whnf); first | refine aC (fun _ => ?_) (fun _ => ?_) | refine aS ?_ | refine aG ?_ | refine aD ?_ | refine aH ?_ | refine aP_T2 ?_ | refine aI ?_ | refine aJ ?_ | (refine aK [] (of_err n hn h) ?_) | (refine CallOb.mk [] (gedges_ok 0 (by omega) (fun _ _ => false)) rfl ⟨Imp.nil _, trivial⟩ rfl rfl ?_; rintro _ _ ⟨rfl, rfl⟩) | fail); all_goals try (conv => whnf)
  exact ⟨rfl, Imp.refl _⟩
end Go.Proofs.Ytnlmmjmcackgjaa
