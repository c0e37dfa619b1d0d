/-
  A text of the proofs of this seat: lemmas that the statements' proofs use; it states nothing of the program by itself beyond the contracts that its theorems bear. Conditions: those that stand in each theorem. Its short name: D3.
-/
import Derived.Test.YtabbnnfobjifiaaC2
set_option linter.unusedVariables false
set_option linter.unusedSimpArgs false
namespace Go.Proofs.Ytabbnnfobjifiaa
open Go.Sx Go.Pk Go.Cv Go.St
set_option maxRecDepth 8000
set_option maxHeartbeats 2000000
--APPX pks_len, Go.Cv.vals_len
/- the tick behind the first packets -/
def enI (p : List Pk) : Nat → Int
  | 0 => 0
  | i + 1 => (p.getD i pk0).t + 1
theorem enI_step {p : List Pk} (hv : Vld p) {i : Nat} (hi : i < p.length) : max (enI p i) ((p.getD i pk0).t + 1) = enI p (i + 1) := by
  have h1 := hv.o i hi
  have h2 := hv.g i hi
  unfold bad at h2
  show _ = (p.getD i pk0).t + 1
  cases i with
  | zero => show max 0 _ = _; omega
  | succ i => show max ((p.getD i pk0).t + 1) _ = _; simp only [Go.Pk.lst] at h1; omega
theorem enI_bd {p : List Pk} (hv : Vld p) {i : Nat} (hi : i ≤ p.length) : 0 ≤ enI p i ∧ enI p i ≤ 2001 := by
  cases i with
  | zero => simp [enI]
  | succ i => have := hv.g i (by omega); unfold bad at this; simp only [enI]; omega
theorem enI_end {p : List Pk} (hv : Vld p) : enI p p.length = endN p := by
  unfold endN
  cases h : p.length with
  | zero => rfl
  | succ i => have := hv.g i (by omega); unfold bad at this; simp only [enI]; omega
theorem aP_D3 {A B K : Prop} (k : K) (a : A := by (simp only [zA, zT, zD, zC, zN, ints_len, zR, pks_len, Go.Cv.vals_len]; omega)) (b : B := by (simp only [zA, zT, zD, zC, zN, ints_len, zR, pks_len, Go.Cv.vals_len]; omega)) : (A ∧ B) ∧ K := ⟨⟨a, b⟩, k⟩
theorem rend14_ok (p : List Pk) (hv : Vld p) : Ctr Try.prog 84 [.psl 3 (pks p)] [] (fun r o => o = [] ∧ r = i64 (endN p)) := by
  refine fn_intro (E := env 0) tys_ok rfl rfl rfl Try.func84 (by kernel_rfl) rfl (by kernel_rfl) ?_
  have hpl := pks_len p
  have hl := hv.l
  (repeat' (conv => whnf); first | (refine aC (fun _ => ?_) (fun _ => ?_) <;> try (exfalso; omega)) | refine aS ?_ | refine aG ?_ | refine aD ?_ | refine aH ?_ | refine aP_D3 ?_ | refine aI ?_ | refine aJ ?_ | fail); all_goals try (conv => whnf)
  refine LoopOb.mk (Y := Nat) (st := fun i => ⟨[(4, i64 i), (3, i64 (enI p i)), (0, .psl 3 (pks p))], []⟩)
    (inv := fun i => i ≤ p.length) (fun i => p.length - i) 0 [] (by omega) (by (exact aL)) ?_
  intro i hi
  have b0 := enI_bd hv hi
  (repeat' (conv => whnf); first | refine aS ?_ | refine aG ?_ | refine aD ?_ | refine aH ?_ | refine aP_D3 ?_ | refine aI ?_ | refine aJ ?_ | fail); all_goals try (conv => whnf)
  refine CondOb.mk (fun hlt => ?_) (fun hlt => ?_)
  · have hil : i < p.length := by omega
    have hg := pks_get hil
    have e := enI_step hv hil
    have b1 := enI_bd hv hi
    have b2 := hv.g i hil
    unfold bad at b2
    generalize p.getD i pk0 = x at *
    (repeat' (conv => whnf); first | refine ⟨i, _, rfl, hg, ?_⟩ | (refine aC (fun _ => ?_) (fun _ => ?_) <;> try (exfalso; omega)) | refine aS ?_ | refine aG ?_ | refine aD ?_ | refine aH ?_ | refine aP_D3 ?_ | refine aI ?_ | refine aJ ?_ | fail); all_goals try (conv => whnf)
    exact ⟨i + 1, [], by omega, by omega, by rw [← e]; (exact aL)⟩
  · have e : i = p.length := by omega
    subst e
    rw [enI_end hv]
    (repeat' (conv => whnf); first | (refine aC (fun _ => ?_) (fun _ => ?_) <;> try (exfalso; omega)) | refine aS ?_ | refine aG ?_ | refine aD ?_ | refine aH ?_ | refine aP_D3 ?_ | refine aI ?_ | refine aJ ?_ | fail); all_goals try (conv => whnf)
    all_goals first
      | exact ⟨rfl, rfl⟩
      | trace_state
/- bytes that come in at a tick, among the first packets -/
abbrev icS (p : List Pk) (flow : Int) (i u : Nat) : Int := incL (u : Int) (selN p flow i)
theorem icS_sel {p : List Pk} {flow : Int} {i : Nat} (hs : sel flow (p.getD i pk0)) (u : Nat) : icS p flow (i + 1) u = if (p.getD i pk0).t + 1 = u then icS p flow i u + (p.getD i pk0).s else icS p flow i u := by
  unfold icS
  rw [(selN_step p flow i).1 hs, incL_app]
  simp only [incL]
  split <;> omega
/- sums up to a tick, and what comes in behind it -/
abbrev cuS (A I : Nat → Int) (t u : Nat) : Int := if u < t then A u else I u
theorem rsums14_ok (p : List Pk) (hv : Vld p) (flow : Int) (hf : -1 ≤ flow) : Ctr Try.prog 67 [.psl 3 (pks p), i64 flow] [] (fun r o => o = [] ∧ r = .psl 1 (ints (vals (csm p flow) (endN p + 1)))) := by
  refine Ctr.imp ?_
  refine fn_intro (E := env 0) tys_ok rfl rfl rfl Try.func67 (by kernel_rfl) rfl (by kernel_rfl) ?_
  have hpl := pks_len p
  have hl := hv.l
  have hN := endN_le hv
  have hE := end_lt hv
  have cE := rend14_ok p hv
  have hib : ∀ i, i ≤ p.length → ∀ u, 0 ≤ icS p flow i u ∧ icS p flow i u ≤ 60000000 := fun i hi u => by
    have h1 := incL_bd (u := (u : Int)) (l := selN p flow i) fun x hx => hv.sml _ (selN_mem hi x hx).2.2
    have h2 := selN_len p flow i
    unfold icS; omega
  have hcb : ∀ t, 0 ≤ csm p flow t ∧ csm p flow t ≤ 60000000 := fun t => by
    have h1 := sel_bd (flow := flow) (t := (t : Int)) hv.sml (selN p flow p.length).length
    rw [List.take_length] at h1
    show 0 ≤ bysL _ _ ∧ bysL _ _ ≤ _
    omega
  have hinc : ∀ t, csm p flow (t + 1) = csm p flow t + icS p flow p.length (t + 1) := fun t => by
    show bysL _ _ = bysL _ _ + incL _ _
    push_cast
    exact bysL_inc _ _
  have hz := bysL_zero (l := selN p flow p.length) fun x hx => (hE _ (selN_mem (Nat.le_refl _) x hx).2.2).1
  have hz1 : csm p flow 0 = 0 := hz.1
  have hz2 : icS p flow p.length 0 = 0 := hz.2
  generalize hNn : endN p = N at *
  have hrep : List.replicate (N + 1) ([i64 0] : List SV) = ints (vals (icS p flow 0) (N + 1)) := by
    show _ = ints (vals (fun _ => 0) (N + 1))
    simp [ints, vals, List.map_const']
  (repeat' (conv => whnf); first | refine ⟨N + 1, N + 1, by omega, by omega, Nat.le_refl _, ⟨by (simp only; omega), by omega⟩, ?_⟩ | (refine aC (fun _ => ?_) (fun _ => ?_) <;> try (exfalso; omega)) | refine aS ?_ | refine aG ?_ | refine aD ?_ | refine aH ?_ | refine aP_D3 ?_ | refine aI ?_ | refine aJ ?_ | refine ⟨_, _, rfl, rfl, Nat.le_refl _, ⟨by (simp only; omega), by omega⟩, ?_⟩ | refine aW (.qs [0, 1, 2, 3, 4, 5, 6, 7, 8, 9, 10, 11, 12, 13, 14, 15, 16, 17, 18, 19, 20, 21, 22] (.l 23 [] .nil .no)) ?_ | refine aW (.qs [0, 1, 2, 3, 4, 5, 6, 7, 8, 9, 10, 11, 12] (.l 13 [] .nil .no)) ?_ | (refine aK [] cE ?_) | fail); all_goals try (conv => whnf)
  refine LoopOb.mk (Y := Nat) (st := fun i => ⟨[(6, i64 i), (5, .vec 0), (0, .psl 3 (pks p)), (1, i64 flow)], [.vec 1 (ints (vals (icS p flow i) (N + 1)))]⟩)
    (inv := fun i => i ≤ p.length) (fun i => p.length - i) 0 [1] (by omega) (by rw [← hrep]; (exact aL)) ?_
  intro i hi
  have lV : (ints (vals (icS p flow i) (N + 1))).length = N + 1 := by rw [ints_len, vals_len]
  (repeat' (conv => whnf); first | refine aS ?_ | refine aG ?_ | refine aD ?_ | refine aH ?_ | refine aP_D3 ?_ | refine aI ?_ | refine aJ ?_ | refine aW (.qs [0, 1, 2, 3, 4, 5, 6, 7, 8, 9, 10, 11, 12, 13, 14, 15, 16, 17, 18, 19, 20, 21, 22] (.l 23 [] .nil .no)) ?_ | refine aW (.qs [0, 1, 2, 3, 4, 5, 6, 7, 8, 9, 10, 11, 12] (.l 13 [] .nil .no)) ?_ | fail); all_goals try (conv => whnf)
  refine CondOb.mk (fun hlt => ?_) (fun hlt => ?_)
  · have hil : i < p.length := by omega
    have hg := pks_get hil
    have hx := hE _ (getD_memP hil)
    have hb := hv.g i hil
    unfold bad at hb
    have hsel : sel flow (p.getD i pk0) ↔ flow = -1 ∨ (p.getD i pk0).f = flow := by unfold sel; omega
    obtain ⟨T, hT⟩ : ∃ T : Nat, (p.getD i pk0).t + 1 = T := ⟨((p.getD i pk0).t + 1).toNat, by omega⟩
    have hget := (ints_get (l := vals (icS p flow i) (N + 1)) (j := T) (by rw [vals_len]; omega)).trans (by rw [vals_get (by omega)])
    have hbd := hib i hi T
    have hset : sel flow (p.getD i pk0) → (ints (vals (icS p flow i) (N + 1))).set T [i64 (icS p flow i T + (p.getD i pk0).s)] = ints (vals (icS p flow (i + 1)) (N + 1)) := fun h => by
      have e : (ints (vals (icS p flow i) (N + 1))).set T [i64 (icS p flow i T + (p.getD i pk0).s)] = ints ((vals (icS p flow i) (N + 1)).set T (icS p flow i T + (p.getD i pk0).s)) := by simp [ints, List.map_set]
      rw [e, vals_set (by omega)]
      congr 1
      refine vals_congr fun u hu => ?_
      rw [icS_sel h]
      by_cases h1 : u = T
      · subst h1; rw [if_pos rfl, if_pos (by omega)]
      · rw [if_neg h1, if_neg (by omega)]
    have hno : ¬sel flow (p.getD i pk0) → vals (icS p flow (i + 1)) (N + 1) = vals (icS p flow i) (N + 1) := fun h => vals_congr fun u hu => by unfold icS; rw [(selN_step p flow i).2 h]
    generalize p.getD i pk0 = x at *
    generalize icS p flow i T = w at *
    generalize vals (icS p flow i) (N + 1) = V at *
    (repeat' (conv => whnf); first | refine ⟨_, hget, ?_⟩ | refine ⟨T, by omega, by omega, ?_⟩ | refine ⟨i, _, rfl, hg, ?_⟩ | (refine aC (fun _ => ?_) (fun _ => ?_) <;> try (exfalso; omega)) | refine aS ?_ | refine aG ?_ | refine aD ?_ | refine aH ?_ | refine aP_D3 ?_ | refine aI ?_ | refine aJ ?_ | refine aW (.qs [0, 1, 2, 3, 4, 5, 6, 7, 8, 9, 10, 11, 12, 13, 14, 15, 16, 17, 18, 19, 20, 21, 22] (.l 23 [] .nil .no)) ?_ | refine aW (.qs [0, 1, 2, 3, 4, 5, 6, 7, 8, 9, 10, 11, 12] (.l 13 [] .nil .no)) ?_ | fail); all_goals try (conv => whnf)
    all_goals first
      | (refine ⟨i + 1, [0], by omega, by omega, ?_⟩; rw [← hset (hsel.2 (by omega))]; (exact aL); done)
      | (refine ⟨i + 1, [0], by omega, by omega, ?_⟩; rw [hno (fun h => by have := hsel.1 h; omega)]; (exact aL); done)
      | trace_state
  · have e : i = p.length := by omega
    subst e
    clear hlt hi
    (repeat' (conv => whnf); first | (refine aC (fun _ => ?_) (fun _ => ?_) <;> try (exfalso; omega)) | refine aS ?_ | refine aG ?_ | refine aD ?_ | refine aH ?_ | refine aP_D3 ?_ | refine aI ?_ | refine aJ ?_ | refine aW (.qs [0, 1, 2, 3, 4, 5, 6, 7, 8, 9, 10, 11, 12, 13, 14, 15, 16, 17, 18, 19, 20, 21, 22] (.l 23 [] .nil .no)) ?_ | refine aW (.qs [0, 1, 2, 3, 4, 5, 6, 7, 8, 9, 10, 11, 12] (.l 13 [] .nil .no)) ?_ | fail); all_goals try (conv => whnf)
    refine LoopOb.mk (Y := Nat) (st := fun t => ⟨[(7, i64 t), (5, .vec 0), (0, .psl 3 (pks p)), (1, i64 flow)], [.vec 1 (ints (vals (cuS (csm p flow) (icS p flow p.length) t) (N + 1)))]⟩)
      (inv := fun t => 1 ≤ t ∧ t ≤ N + 1) (fun t => N + 1 - t) 1 [0] (by omega) ?_ ?_
    · have e : vals (icS p flow p.length) (N + 1) = vals (cuS (csm p flow) (icS p flow p.length) 1) (N + 1) := vals_congr fun u hu => by
        unfold cuS
        by_cases h : u < 1
        · rw [if_pos h, show u = 0 by omega, hz1, hz2]
        · rw [if_neg h]
      rw [e]; (exact aL)
    intro t ht
    have lW : (ints (vals (cuS (csm p flow) (icS p flow p.length) t) (N + 1))).length = N + 1 := by rw [ints_len, vals_len]
    (repeat' (conv => whnf); first | refine aS ?_ | refine aG ?_ | refine aD ?_ | refine aH ?_ | refine aP_D3 ?_ | refine aI ?_ | refine aJ ?_ | refine aW (.qs [0, 1, 2, 3, 4, 5, 6, 7, 8, 9, 10, 11, 12, 13, 14, 15, 16, 17, 18, 19, 20, 21, 22] (.l 23 [] .nil .no)) ?_ | refine aW (.qs [0, 1, 2, 3, 4, 5, 6, 7, 8, 9, 10, 11, 12] (.l 13 [] .nil .no)) ?_ | fail); all_goals try (conv => whnf)
    refine CondOb.mk (fun hlt => ?_) (fun hlt => ?_)
    · have htl : t < N + 1 := by omega
      obtain ⟨t0, rfl⟩ : ∃ t0, t = t0 + 1 := ⟨t - 1, by omega⟩
      have g1 := (ints_get (l := vals (cuS (csm p flow) (icS p flow p.length) (t0 + 1)) (N + 1)) (j := t0 + 1) (by rw [vals_len]; omega)).trans (by rw [vals_get htl, cuS, if_neg (by omega)])
      have g2 := (ints_get (l := vals (cuS (csm p flow) (icS p flow p.length) (t0 + 1)) (N + 1)) (j := t0) (by rw [vals_len]; omega)).trans (by rw [vals_get (by omega), cuS, if_pos (by omega)])
      have hset : (ints (vals (cuS (csm p flow) (icS p flow p.length) (t0 + 1)) (N + 1))).set (t0 + 1) [i64 (icS p flow p.length (t0 + 1) + csm p flow t0)] = ints (vals (cuS (csm p flow) (icS p flow p.length) (t0 + 1 + 1)) (N + 1)) := by
        have e : (ints (vals (cuS (csm p flow) (icS p flow p.length) (t0 + 1)) (N + 1))).set (t0 + 1) [i64 (icS p flow p.length (t0 + 1) + csm p flow t0)] = ints ((vals (cuS (csm p flow) (icS p flow p.length) (t0 + 1)) (N + 1)).set (t0 + 1) (icS p flow p.length (t0 + 1) + csm p flow t0)) := by simp [ints, List.map_set]
        rw [e, vals_set htl]
        congr 1
        refine vals_congr fun u hu => ?_
        by_cases h1 : u = t0 + 1
        · subst h1; rw [if_pos rfl]; unfold cuS; rw [if_pos (by omega), hinc]; omega
        · rw [if_neg h1]; unfold cuS
          by_cases h2 : u < t0 + 1
          · rw [if_pos h2, if_pos (by omega)]
          · rw [if_neg h2, if_neg (by omega)]
      have b1 := hib p.length (Nat.le_refl _) (t0 + 1)
      have b2 := hcb t0
      generalize icS p flow p.length (t0 + 1) = x at g1 b1 hset
      generalize csm p flow t0 = y at g2 b2 hset
      (repeat' (conv => whnf); first | refine ⟨_, g2, ?_⟩ | refine ⟨_, g1, ?_⟩ | refine ⟨t0, by omega, by omega, ?_⟩ | refine ⟨t0 + 1, by omega, by (first | omega | (simp only [List.length_set]; omega)), ?_⟩ | (refine aC (fun _ => ?_) (fun _ => ?_) <;> try (exfalso; omega)) | refine aS ?_ | refine aG ?_ | refine aD ?_ | refine aH ?_ | refine aP_D3 ?_ | refine aI ?_ | refine aJ ?_ | refine aW (.qs [0, 1, 2, 3, 4, 5, 6, 7, 8, 9, 10, 11, 12, 13, 14, 15, 16, 17, 18, 19, 20, 21, 22] (.l 23 [] .nil .no)) ?_ | refine aW (.qs [0, 1, 2, 3, 4, 5, 6, 7, 8, 9, 10, 11, 12] (.l 13 [] .nil .no)) ?_ | fail); all_goals try (conv => whnf)
      exact ⟨t0 + 1 + 1, [0], by omega, by omega, by rw [← hset]; (exact aL)⟩
    · have e : t = N + 1 := by omega
      subst e
      have e : vals (cuS (csm p flow) (icS p flow p.length) (N + 1)) (N + 1) = vals (csm p flow) (N + 1) := vals_congr fun u hu => by unfold cuS; rw [if_pos hu]
      rw [e]
      (repeat' (conv => whnf); first | (refine aC (fun _ => ?_) (fun _ => ?_) <;> try (exfalso; omega)) | refine aS ?_ | refine aG ?_ | refine aD ?_ | refine aP_D3 ?_ | refine aI ?_ | refine aJ ?_ | refine aW (.qs [0, 1, 2, 3, 4, 5, 6, 7, 8, 9, 10, 11, 12, 13, 14, 15, 16, 17, 18, 19, 20, 21, 22] (.l 23 [] .nil .no)) ?_ | refine aW (.qs [0, 1, 2, 3, 4, 5, 6, 7, 8, 9, 10, 11, 12] (.l 13 [] .nil .no)) ?_ | fail); all_goals try (conv => whnf)
      refine .mk [.fz 0] ?_
      (repeat' (conv => whnf); first | (refine aC (fun _ => ?_) (fun _ => ?_) <;> try (exfalso; omega)) | refine aS ?_ | refine aG ?_ | refine aD ?_ | refine aH ?_ | refine aP_D3 ?_ | refine aI ?_ | refine aJ ?_ | refine aW (.qs [0, 1, 2, 3, 4, 5, 6, 7, 8, 9, 10, 11, 12, 13, 14, 15, 16, 17, 18, 19, 20, 21, 22] (.l 23 [] .nil .no)) ?_ | refine aW (.qs [0, 1, 2, 3, 4, 5, 6, 7, 8, 9, 10, 11, 12] (.l 13 [] .nil .no)) ?_ | fail); all_goals try (conv => whnf)
      exact ⟨rfl, Imp.refl _⟩
end Go.Proofs.Ytabbnnfobjifiaa
