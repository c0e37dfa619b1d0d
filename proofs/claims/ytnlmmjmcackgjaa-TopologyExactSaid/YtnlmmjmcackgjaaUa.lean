/-
  A text of the proofs of this seat: lemmas that the statements' proofs use; it states nothing of the program by itself beyond the contracts that its theorems bear. Conditions: those that stand in each theorem. Its short name: Ua.
-/
import Derived.Test.YtnlmmjmcackgjaaT8
import Derived.Test.YtnlmmjmcackgjaaTx
import Derived.Test.YtnlmmjmcackgjaaN9
set_option linter.unusedVariables false
set_option linter.unusedSimpArgs false
namespace Go.Proofs.Ytnlmmjmcackgjaa
open Go.Sx Go.Np Go.Tp
set_option maxRecDepth 4000
set_option maxHeartbeats 2000000
--APPX eds_len, nts_len, ivs_len
/-! the document's graph functions -/
theorem ed_memU {l : List Ed} {j : Nat} (h : j < l.length) : l.getD j (0, 0) ∈ l := by
  rw [List.getD_eq_getElem?_getD, List.getElem?_eq_getElem h]; exact List.getElem_mem h
theorem foldl_at {l : List Ed} {F : Nat → Int} {d i : Nat} (h : i < l.length) : (l.take (i + 1)).foldl (fars d) F = fars d ((l.take i).foldl (fars d) F) (l.getD i (0, 0)) := by
  rw [List.take_succ_eq_append_getElem h, List.foldl_append, List.getD_eq_getElem?_getD, List.getElem?_eq_getElem h]; rfl
theorem aP_Ua {A B K : Prop} (k : K) (a : A := by (simp only [zA, zT, zD, zC, zN, ints_len, zR, eds_len, nts_len, ivs_len]; omega)) (b : B := by (simp only [zA, zT, zD, zC, zN, ints_len, zR, eds_len, nts_len, ivs_len]; omega)) : (A ∧ B) ∧ K := ⟨⟨a, b⟩, k⟩
theorem rreach_ok (l : List Ed) (m a : Nat) (hl : ∀ e ∈ l, e.1 < m ∧ e.2 < m) (hn : l.length ≤ 1000) (ha : a < m) (hm : m ≤ 1000) :
    Ctr Try.prog 64 [.psl 2 (eds l), i64 m, i64 a] [] (fun r o => o = [] ∧ r = .psl 1 (ivs m (farD l a m))) := by
  refine Ctr.imp ?_
  refine fn_intro (E := env 0) tys_ok rfl rfl rfl Try.func64 (by kernel_rfl) rfl (by kernel_rfl) ?_
  have hel := eds_len l
  (repeat' (conv => whnf); first | refine aC (fun _ => ?_) (fun _ => ?_) | refine aS ?_ | refine aG ?_ | refine aD ?_ | refine aH ?_ | refine aP_Ua ?_ | refine aI ?_ | refine aJ ?_ | refine ⟨_, _, rfl, rfl, Nat.le_refl _, ⟨by (simp only; omega), by omega⟩, ?_⟩ | fail); all_goals try (conv => whnf)
  have e0 : ivs m (fun y => if y < 0 then -1 else 0) = ivs m (fun _ => 0) := ivs_congr fun b hb => if_neg (by omega)
  refine LoopOb.mk (Y := Nat) (st := fun i => ⟨[(8, i64 i), (7, .vec 0), (0, .psl 2 (eds l)), (1, i64 m), (2, i64 a)], [.vec 1 (ivs m (fun y => if y < i then -1 else 0))]⟩)
    (inv := fun i => i ≤ m) (fun i => m - i) 0 [1] (by omega) (by rw [e0]; (refine Le.mk (by kernel_rfl) ?_ ?_ <;> repeat' (first | exact True.intro | refine And.intro ?_ ?_ | exact Imp.refl _ | exact Imp.any _ | exact Imp.num (by omega) | exact rfl | exact ivs_zero _))) ?_
  intro i hi
  have hvl := ivs_len m (fun y => if y < i then -1 else 0)
  have hst : i < m → (ivs m (fun y => if y < i then -1 else 0)).set i [i64 (-1)] = ivs m (fun y => if y < i + 1 then -1 else 0) := fun h => by
    rw [ivs_set]
    refine ivs_congr fun b hb => ?_
    by_cases e : b = i
    · subst e; rw [if_pos rfl, if_pos (by omega)]
    · rw [if_neg e]
      by_cases h2 : b < i
      · rw [if_pos h2, if_pos (by omega)]
      · rw [if_neg h2, if_neg (by omega)]
  have hgi : ∀ b, b < m → (ivs m (fun y => if y < i then -1 else 0))[b]? = some [i64 (if b < i then -1 else 0)] := fun b hb => ivs_get hb
  have hf0 : i = m → (ivs m (fun y => if y < i then -1 else 0)).set a [i64 0] = ivs m (farD l a 0) := fun h => by
    subst h
    rw [ivs_set]
    refine ivs_congr fun b hb => ?_
    show _ = far0 a b
    unfold far0
    by_cases e : b = a
    · rw [if_pos e, if_pos e]
    · rw [if_neg e, if_neg e, if_pos hb]
  generalize ivs m (fun y => if y < i then -1 else 0) = V at *
  (repeat' (conv => whnf); first | refine aS ?_ | refine aG ?_ | refine aD ?_ | refine aH ?_ | refine aP_Ua ?_ | refine aI ?_ | refine aJ ?_ | fail); all_goals try (conv => whnf)
  refine CondOb.mk (fun hlt => ?_) (fun hlt => ?_)
  · have him : i < m := by omega
    have hgi := hgi i him
    generalize (if i < i then (-1 : Int) else 0) = z at *
    (repeat' (conv => whnf); first | refine ⟨_, hgi, ?_⟩ | refine ⟨i, rfl, by omega, ?_⟩ | refine aC (fun _ => ?_) (fun _ => ?_) | refine aS ?_ | refine aG ?_ | refine aD ?_ | refine aH ?_ | refine aP_Ua ?_ | refine aI ?_ | refine aJ ?_ | fail); all_goals try (conv => whnf)
    exact ⟨i + 1, [0], by omega, by omega, by rw [← hst him]; (exact aL)⟩
  have e : i = m := by omega
  have hf0 := hf0 e
  have hga := hgi a ha
  generalize (if a < i then (-1 : Int) else 0) = z at *
  (repeat' (conv => whnf); first | refine ⟨_, hga, ?_⟩ | refine ⟨a, rfl, by omega, ?_⟩ | refine aC (fun _ => ?_) (fun _ => ?_) | refine aS ?_ | refine aG ?_ | refine aD ?_ | refine aH ?_ | refine aP_Ua ?_ | refine aI ?_ | refine aJ ?_ | fail); all_goals try (conv => whnf)
  rw [hf0]
  clear hgi hga hst hvl e hlt hi e0
  refine LoopOb.mk (Y := Nat) (st := fun d => ⟨[(9, i64 d), (7, .vec 0), (0, .psl 2 (eds l)), (1, i64 m), (2, i64 a)], [.vec 1 (ivs m (farD l a d))]⟩)
    (inv := fun d => d ≤ m) (fun d => m - d) 0 [0] (by omega) (by (exact aL)) ?_
  intro d hd
  (repeat' (conv => whnf); first | refine aS ?_ | refine aG ?_ | refine aD ?_ | refine aH ?_ | refine aP_Ua ?_ | refine aI ?_ | refine aJ ?_ | fail); all_goals try (conv => whnf)
  refine CondOb.mk (fun hlt => ?_) (fun hlt => ?_)
  · (repeat' (conv => whnf); first | refine aS ?_ | refine aG ?_ | refine aD ?_ | refine aH ?_ | refine aP_Ua ?_ | refine aI ?_ | refine aJ ?_ | fail); all_goals try (conv => whnf)
    refine LoopOb.mk (Y := Nat) (st := fun i => ⟨[(10, i64 i), (9, i64 d), (7, .vec 0), (0, .psl 2 (eds l)), (1, i64 m), (2, i64 a)], [.vec 1 (ivs m ((l.take i).foldl (fars d) (farD l a d)))]⟩)
      (inv := fun i => i ≤ l.length) (fun i => l.length - i) 0 [0] (by omega) (by (exact aL)) ?_
    intro i hi
    have hend : i = l.length → (l.take i).foldl (fars d) (farD l a d) = farD l a (d + 1) := fun h => by rw [h, List.take_length]; rfl
    have hstp := fun h => foldl_at (l := l) (F := farD l a d) (d := d) (i := i) h
    generalize (l.take i).foldl (fars d) (farD l a d) = G at *
    have hvl := ivs_len m G
    (repeat' (conv => whnf); first | refine aS ?_ | refine aG ?_ | refine aD ?_ | refine aH ?_ | refine aP_Ua ?_ | refine aI ?_ | refine aJ ?_ | fail); all_goals try (conv => whnf)
    refine CondOb.mk (fun hlt2 => ?_) (fun hlt2 => ?_)
    · have hil : i < l.length := by omega
      have hg := eds_get hil
      have hb := hl _ (ed_memU hil)
      have hstp := hstp hil
      generalize l.getD i (0, 0) = e at *
      obtain ⟨x, y⟩ := e
      dsimp only at hb hg
      have g1 := ivs_get (F := G) hb.1
      have g2 := ivs_get (F := G) hb.2
      have hset := ivs_set (m := m) (b := y) (F := G) (v := (d : Int) + 1)
      have q1 : G x = d → G y < 0 → (ivs m G).set y [i64 ((d : Int) + 1)] = ivs m (fars d G (x, y)) := fun h1 h2 => by
        rw [hset]; unfold fars; rw [if_pos ⟨h1, h2⟩]
      have q2 : ¬(G x = d ∧ G y < 0) → fars d G (x, y) = G := fun h => by unfold fars; rw [if_neg h]
      generalize G x = u at *
      generalize G y = v at *
      (repeat' (conv => whnf); first | refine ⟨_, g2, ?_⟩ | refine ⟨_, g1, ?_⟩ | refine ⟨y, rfl, by omega, ?_⟩ | refine ⟨x, rfl, by omega, ?_⟩ | refine ⟨1, rfl, by omega, ?_⟩ | refine ⟨0, rfl, by omega, ?_⟩ | refine ⟨i, _, rfl, hg, ?_⟩ | refine aC (fun _ => ?_) (fun _ => ?_) | refine aS ?_ | refine aG ?_ | refine aD ?_ | refine aH ?_ | refine aP_Ua ?_ | refine aI ?_ | refine aJ ?_ | fail); all_goals try (conv => whnf)
      · exact ⟨i + 1, [0], by omega, by omega, by rw [hstp, ← q1 (by assumption) (by assumption)]; (exact aL)⟩
      · exact ⟨i + 1, [0], by omega, by omega, by rw [hstp, q2 (fun h => by omega)]; (exact aL)⟩
      · exact ⟨i + 1, [0], by omega, by omega, by rw [hstp, q2 (fun h => by omega)]; (exact aL)⟩
    have e : i = l.length := by omega
    rw [hend e]
    (repeat' (conv => whnf); first | refine aC (fun _ => ?_) (fun _ => ?_) | refine aS ?_ | refine aG ?_ | refine aD ?_ | refine aH ?_ | refine aP_Ua ?_ | refine aI ?_ | refine aJ ?_ | fail); all_goals try (conv => whnf)
    exact ⟨d + 1, [0], by omega, by omega, by (exact aL)⟩
  have e : d = m := by omega
  subst e
  (repeat' (conv => whnf); first | refine aC (fun _ => ?_) (fun _ => ?_) | refine aS ?_ | refine aG ?_ | refine aD ?_ | refine aP_Ua ?_ | refine aI ?_ | refine aJ ?_ | fail); all_goals try (conv => whnf)
  refine .mk [.fz 0] ?_
  (conv => whnf)
  exact ⟨rfl, Imp.refl _⟩
end Go.Proofs.Ytnlmmjmcackgjaa
