/- Lemmas that the proofs of this seat use (T1 T2). Conditions: those that stand in each theorem. -/
import Derived.Test.YtaomhdljcdadaaaGreatLib
import Derived.Test.YtaomhdljcdadaaaGreatSxR
import Derived.Test.YtaomhdljcdadaaaGreatPl
set_option linter.unusedVariables false
set_option linter.unusedSimpArgs false
section
namespace Go.Proofs.YtaomhdljcdadaaaGreat
open Go.Sx Go.Pk
set_option maxRecDepth 4000
set_option maxHeartbeats 2000000
abbrev pkw (x : Pk) : List SV := [i64 x.f, i64 x.t, i64 x.s]
abbrev pks (l : List Pk) : List (List SV) := l.map pkw
theorem pks_len (l : List Pk) : (pks l).length = l.length := by simp [pks]
theorem pks_get {l : List Pk} {j : Nat} (h : j < l.length) : (pks l)[j]? = some (pkw (l.getD j pk0)) := by
 simp [pks, List.getElem?_map, List.getElem?_eq_getElem h, List.getD_eq_getElem?_getD]
theorem aP_T1 {A B K : Prop} (k : K) (a : A := by (simp only [zA, zT, zD, zC, zN, ints_len, zR, Go.Cv.vals_len]; omega)) (b : B := by (simp only [zA, zT, zD, zC, zN, ints_len, zR, Go.Cv.vals_len]; omega)) : (A ∧ B) ∧ K := ⟨⟨a, b⟩, k⟩
theorem z2_T1 {G H : Prop} (k : H) (h : H → G := by first | exact fun r => aS r | exact fun r => aG r | exact fun r => aD r | exact fun r => aH r | exact fun r => aP_T1 r | exact fun r => aI r | exact fun r => aJ r) : G := h k
theorem z1_T1 {G H : Prop} (k : H) (h : H → G := by first | exact fun r => aS r | exact fun r => aG r | exact fun r => aD r | exact fun r => aP_T1 r | exact fun r => aI r | exact fun r => aJ r) : G := h k
theorem of_ok (p : List Pk) (flow : Int) : Ctr Tryz.prog 195 [.psl 3 (pks p), i64 flow] [] (fun r o => o = [] ∧ r = .fn 201 [.pptr [.psl 3 (pks p)], .pptr [i64 flow]]) := by
 refine fn_intro (E := env 0) tys_ok rfl rfl rfl Tryz.func195 (by kernel_rfl) rfl (by kernel_rfl) ?_
 (repeat' (conv => whnf); first | refine aC (fun _ => ?_) (fun _ => ?_) | refine z1_T1 ?_ | fail); all_goals try (conv => whnf)
 refine .mk [.fb 0, .fb 1] ?_
 (repeat' (conv => whnf); first | refine aC (fun _ => ?_) (fun _ => ?_) | refine z2_T1 ?_ | fail); all_goals try (conv => whnf)
 exact ⟨rfl, rfl⟩
abbrev rnd (x : Nat × Pk) : List SV := [i64 x.1, .agg (pkw x.2)]
theorem of1B (Y : YP) (hm : Y.m = 2) (p : List Pk) (hp : p.length ≤ 1000000) (flow t : Int) (f : Nat → Int)
  (hY : ∀ j x, (selN p flow p.length)[j]? = some x → CtrY Tryz.prog Y (rnd x) [.box [i64 t], .box [i64 (f j)]] (fun v o' => v = .bl true ∧ o' = [.box [i64 t], .box [i64 (f (j + 1))]])) :
  CtrL Tryz.prog Y 201 [.raw (yv Y.L), .pptr [.psl 3 (pks p)], .pptr [i64 flow]] [.box [i64 t], .box [i64 (f 0)]] (fun _ o => o = [.box [i64 t], .box [i64 (f (selN p flow p.length).length)]]) := by
 refine fn_introY (E := env 2) tys_ok rfl rfl rfl Tryz.func201 (by kernel_rfl) rfl (by kernel_rfl) ?_
 have hpl := pks_len p
 (repeat' (conv => whnf); first | (refine aC (fun _ => ?_) (fun _ => ?_) <;> try (exfalso; omega)) | refine z2_T1 ?_ | fail); all_goals try (conv => whnf)
 refine LoopOb.mk (Y := Nat) (st := fun i => ⟨[(8, i64 i), (7, i64 (pks p).length), (6, .psl 3 (pks p)), (0, .raw (yv Y.L)), (1, .pptr [.psl 3 (pks p)]), (2, .pptr [i64 flow])], [.box [i64 t], .box [i64 (f (selN p flow i).length)]]⟩)
  (inv := fun i => i ≤ p.length) (fun i => p.length - i) 0 [0, 1] (by omega) (by (exact aL)) ?_
 intro i hi
 (repeat' (conv => whnf); first | refine z2_T1 ?_ | fail); all_goals try (conv => whnf)
 refine CondOb.mk (fun hlt => ?_) (fun hlt => ?_)
 ·have hil : i < p.length := by omega
  have hg := pks_get hil
  have hat := fun h => hY _ _ (selN_at hil h)
  obtain ⟨hs1, hs2⟩ := selN_step p flow i
  have hl1 : sel flow (p.getD i pk0) → (selN p flow (i + 1)).length = (selN p flow i).length + 1 := fun h => by rw [hs1 h, List.length_append]; rfl
  unfold sel at hs1 hs2 hat hl1
  generalize p.getD i pk0 = x at *
  (repeat' (conv => whnf); first | refine ⟨i, _, rfl, hg, ?_⟩ | (refine aC (fun _ => ?_) (fun _ => ?_) <;> try (exfalso; omega)) | refine z2_T1 ?_ | refine YOb.mk rfl ?_ | (refine YieldOb.mk 2 hm [0, 1] (hat (by omega)) rfl (ImpL.refl _) rfl rfl rfl ?_; rintro _ _ ⟨rfl, rfl⟩) | fail); all_goals try (conv => whnf)
  all_goals first
   |exact ⟨i + 1, [0, 1], by omega, by omega, by rw [hs2 (by omega)]; (exact aL)⟩
   |exact ⟨i + 1, [0, 1], by omega, by omega, by rw [hl1 (by omega)]; (exact aL)⟩
   |trace_state
 ·have e : i = p.length := by omega
  subst e
  (repeat' (conv => whnf); first | (refine aC (fun _ => ?_) (fun _ => ?_) <;> try (exfalso; omega)) | refine z2_T1 ?_ | fail); all_goals try (conv => whnf)
theorem Bytes_ok (p : List Pk) (hp : p.length ≤ 1000000) (hsm : Sml p) (flow t : Int) : Ctr Tryz.prog 177 [.psl 3 (pks p), i64 flow, i64 t] [] (fun r o => o = [] ∧ r = i64 (bys p flow t)) := by
  refine fn_introR (E := env 0) tys_ok rfl rfl rfl Tryz.func177 (by kernel_rfl) rfl (by kernel_rfl) ?_
  (repeat' (conv => whnf); first | (refine aC (fun _ => ?_) (fun _ => ?_) <;> try (exfalso; omega)) | refine z2_T1 ?_ | (refine aK [] (of_ok p flow) ?_) | fail); all_goals try (conv => whnf)
  refine RangeOb.mk 2 ((selN p flow p.length).map rnd) (fun j o => o = [.box [i64 t], .box [i64 (bysL t ((selN p flow p.length).take j))]]) (fun j o => o = [.box [i64 t], .box [i64 (bysL t ((selN p flow p.length).take j))]]) (fun j o => o = [.box [i64 t], .box [i64 (bysL t ((selN p flow p.length).take j))]]) (by kernel_rfl) (fun r hr => by obtain ⟨x, _, rfl⟩ := List.mem_map.1 hr; rfl) ?_ ?_ ?_
  · intro Y hm hY
    rw [List.length_map]
    exact of1B Y hm p hp flow t (fun j => bysL t ((selN p flow p.length).take j)) fun j x hx => hY j _ (rnd x) rfl (by rw [List.getElem?_map, hx]; rfl)
  · rintro j o r rfl hr
    rw [List.getElem?_map] at hr
    cases hx : (selN p flow p.length)[j]? with
    | none => rw [hx] at hr; cases hr
    | some x =>
      rw [hx] at hr; cases hr
      have hb := bysL_take t hx
      have hbd := sel_bd (flow := flow) (t := t) hsm j
      have hxs := hsm x.2 (selN_mem (Nat.le_refl _) x (List.mem_of_getElem? hx)).2.2
      obtain ⟨i, x⟩ := x
      dsimp only at hb hxs ⊢
      clear hx
      generalize bysL t ((selN p flow p.length).take j) = B at *
      rw [hb]
      (repeat' (conv => whnf); first | refine ArOb.fits (by dsimp only; omega) ?_ | (refine aC (fun _ => ?_) (fun _ => ?_) <;> try (exfalso; omega)) | refine z2_T1 ?_ | fail); all_goals try (conv => whnf)
      all_goals first
        | (dsimp only at *; rw [if_pos (by assumption)])
        | (dsimp only at *; rw [if_neg (by assumption), Int.add_zero])
        | trace_state
  · rintro o rfl
    rw [List.length_map, List.take_length]
    (repeat' (conv => whnf); first | (refine aC (fun _ => ?_) (fun _ => ?_) <;> try (exfalso; omega)) | refine z2_T1 ?_ | fail); all_goals try (conv => whnf)
    exact ⟨rfl, rfl⟩
end Go.Proofs.YtaomhdljcdadaaaGreat
end
section
namespace Go.Proofs.YtaomhdljcdadaaaGreat
open Go.Sx Go.Pk Go.Cv
set_option maxRecDepth 4000
set_option maxHeartbeats 2000000
theorem aP_T2 {A B K : Prop} (k : K) (a : A := by (simp only [zA, zT, zD, zC, zN, ints_len, zR, Go.Cv.vals_len]; omega)) (b : B := by (simp only [zA, zT, zD, zC, zN, ints_len, zR, Go.Cv.vals_len]; omega)) : (A ∧ B) ∧ K := ⟨⟨a, b⟩, k⟩
theorem z1_T2 {G H : Prop} (k : H) (h : H → G := by first | exact fun r => aS r | exact fun r => aG r | exact fun r => aD r | exact fun r => aH r | exact fun r => aP_T2 r | exact fun r => aI r | exact fun r => aJ r) : G := h k
theorem Validate_ok (p : List Pk) (hp : p.length ≤ 1000000) : Ctr Tryz.prog 175 [.psl 3 (pks p)] [] (fun r o => o = [] ∧ r = i64 (vld p)) := by
  refine fn_intro (E := env 0) tys_ok rfl rfl rfl Tryz.func175 (by kernel_rfl) rfl (by kernel_rfl) ?_
  have hpl := pks_len p
  (repeat' (conv => whnf); first | (refine aC (fun _ => ?_) (fun _ => ?_) <;> try (exfalso; omega)) | refine z1_T2 ?_ | fail); all_goals try (conv => whnf)
  · exact ⟨rfl, by unfold vld; rw [if_pos (by omega)]; rfl⟩
  refine LoopOb.mk (Y := Nat) (st := fun i => ⟨[(11, i64 i), (10, i64 (pks p).length), (9, .psl 3 (pks p)), (3, i64 (lst p i))], []⟩)
    (inv := fun i => i ≤ p.length ∧ vldN p i = 0) (fun i => p.length - i) 0 [] ⟨by omega, rfl⟩ (by (exact aL)) ?_
  rintro i ⟨hi, hv⟩
  (repeat' (conv => whnf); first | refine z1_T2 ?_ | fail); all_goals try (conv => whnf)
  refine CondOb.mk (fun hlt => ?_) (fun hlt => ?_)
  · have hil : i < p.length := by omega
    have hg := pks_get hil
    have hs0 : vldN p (i + 1) = if bad (p.getD i pk0) then 2 else if (p.getD i pk0).t < lst p i then 7 else 0 := by simp only [vldN]; rw [if_neg (by omega)]
    have hs1 : bad (p.getD i pk0) → vldN p (i + 1) = 2 := fun h => by rw [hs0, if_pos h]
    have hs2 : ¬bad (p.getD i pk0) → (p.getD i pk0).t < lst p i → vldN p (i + 1) = 7 := fun h h' => by rw [hs0, if_neg h, if_pos h']
    have hs3 : ¬bad (p.getD i pk0) → ¬(p.getD i pk0).t < lst p i → vldN p (i + 1) = 0 := fun h h' => by rw [hs0, if_neg h, if_neg h']
    clear hs0
    have hl : lst p (i + 1) = (p.getD i pk0).t := rfl
    have hE : vldN p (i + 1) ≠ 0 → vld p = vldN p (i + 1) := fun h => by
      unfold vld; rw [if_neg (by omega)]; exact vldN_ge (by omega) h
    unfold bad at hs1 hs2 hs3
    generalize p.getD i pk0 = x at *
    generalize lst p i = y at *
    (repeat' (conv => whnf); first | refine ⟨i, _, rfl, hg, ?_⟩ | (refine aC (fun _ => ?_) (fun _ => ?_) <;> try (exfalso; omega)) | refine z1_T2 ?_ | fail); all_goals try (conv => whnf)
    all_goals first
      | (have e := hs3 (by omega) (by assumption)
         exact ⟨i + 1, [], ⟨by omega, e⟩, by omega, by rw [hl]; (exact aL)⟩)
      | (have e := hs1 (by omega)
         have e2 := (hE (by omega)).trans e
         rw [e2]
         exact ⟨rfl, rfl⟩)
      | (have e := hs2 (by omega) (by assumption)
         have e2 := (hE (by omega)).trans e
         rw [e2]
         exact ⟨rfl, rfl⟩)
      | trace_state
  · have e : i = p.length := by omega
    subst e
    (repeat' (conv => whnf); first | (refine aC (fun _ => ?_) (fun _ => ?_) <;> try (exfalso; omega)) | refine z1_T2 ?_ | fail); all_goals try (conv => whnf)
    exact ⟨rfl, by unfold vld; rw [if_neg (by omega), hv]; rfl⟩
end Go.Proofs.YtaomhdljcdadaaaGreat
end
