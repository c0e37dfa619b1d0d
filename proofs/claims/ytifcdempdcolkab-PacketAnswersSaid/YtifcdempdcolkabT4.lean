/-
  A text of the proofs of this seat: lemmas that the statements' proofs use; it states nothing of the program by itself beyond the contracts that its theorems bear. Conditions: those that stand in each theorem. Its short name: T4.
-/
import Derived.Test.YtifcdempdcolkabT2
set_option linter.unusedVariables false
set_option linter.unusedSimpArgs false
namespace Go.Proofs.Ytifcdempdcolkab
open Go.Sx Go.Pk Go.Cv
set_option maxRecDepth 4000
set_option maxHeartbeats 2000000
abbrev slP (l : List (Nat × Pk)) : List Pk := l.map (·.2)
abbrev slA (l : List (Nat × Pk)) : List Chunk := [.box [.vec 1], .vec 3 (pks (slP l))]
abbrev slB (l : List (Nat × Pk)) : List Chunk := [.box [.vec 2], .dead, .vec 3 (pks (slP l))]
theorem aP_T4 {A B K : Prop} (k : K) (a : A := by (simp only [zA, zT, zD, zC, zN, ints_len, zR, Go.Cv.vals_len]; omega)) (b : B := by (simp only [zA, zT, zD, zC, zN, ints_len, zR, Go.Cv.vals_len]; omega)) : (A ∧ B) ∧ K := ⟨⟨a, b⟩, k⟩
theorem of1S (Y : YP) (hm : Y.m = 1) (p : List Pk) (hp : p.length ≤ 1000000) (flow : Int)
    (hY : ∀ j x, (selN p flow p.length)[j]? = some x → CtrY Try.prog Y (rnd x) (slA ((selN p flow p.length).take j)) (fun v o' => v = .bl true ∧ o' = slB ((selN p flow p.length).take (j + 1)))) :
    CtrL Try.prog Y 76 [.raw (yv Y.L), .pptr [.psl 3 (pks p)], .pptr [i64 flow]] (slA []) (fun _ o => (o = slA (selN p flow p.length)) ∨ o = slB (selN p flow p.length)) := by
  refine fn_introY (E := env 2) tys_ok rfl rfl rfl Try.func76 (by kernel_rfl) rfl (by kernel_rfl) ?_
  have hpl := pks_len p
  have hlt := fun i => selN_len p flow i
  have htk : ∀ i, i ≤ p.length → (selN p flow p.length).take (selN p flow i).length = selN p flow i := fun i hi => by
    obtain ⟨r, hr⟩ := selN_pre p flow (i := i) (m := p.length) hi
    rw [hr, List.take_left']
    rfl
  (repeat' (conv => whnf); first | (refine aC (fun _ => ?_) (fun _ => ?_) <;> try (exfalso; omega)) | refine aS ?_ | refine aG ?_ | refine aD ?_ | refine aH ?_ | refine aP_T4 ?_ | refine aI ?_ | refine aJ ?_ | fail); all_goals try (conv => whnf)
  refine LoopOb.mk (Y := Nat × Bool) (st := fun y => match y.2 with
      | true => ⟨[(8, i64 y.1), (7, i64 (pks p).length), (6, .psl 3 (pks p)), (0, .raw (yv Y.L)), (1, .pptr [.psl 3 (pks p)]), (2, .pptr [i64 flow])], slA (selN p flow y.1)⟩
      | false => ⟨[(8, i64 y.1), (7, i64 (pks p).length), (6, .psl 3 (pks p)), (0, .raw (yv Y.L)), (1, .pptr [.psl 3 (pks p)]), (2, .pptr [i64 flow])], slB (selN p flow y.1)⟩)
    (inv := fun y => y.1 ≤ p.length) (fun y => p.length - y.1) (0, true) [0, 1] (by simp) (by (exact aL)) ?_
  rintro ⟨i, b⟩ hi
  dsimp only at hi
  have hat := fun (hil : i < p.length) h => hY _ _ (selN_at (flow := flow) hil h)
  rw [htk i hi] at hat
  obtain ⟨hs1, hs2⟩ := selN_step p flow i
  have hl1 : sel flow (p.getD i pk0) → (selN p flow (i + 1)).length = (selN p flow i).length + 1 := fun h => by rw [hs1 h, List.length_append]; rfl
  have hat2 : ∀ (hil : i < p.length) (h : sel flow (p.getD i pk0)), CtrY Try.prog Y (rnd (i, p.getD i pk0)) (slA (selN p flow i)) (fun v o' => v = .bl true ∧ o' = slB (selN p flow (i + 1))) := fun hil h => by
    have := hat hil h
    rw [← hl1 h, htk (i + 1) (by omega)] at this
    exact this
  clear hat hl1 hs1
  cases b with
  | true =>
    dsimp only
    (repeat' (conv => whnf); first | refine aS ?_ | refine aG ?_ | refine aD ?_ | refine aH ?_ | refine aP_T4 ?_ | refine aI ?_ | refine aJ ?_ | fail); all_goals try (conv => whnf)
    refine CondOb.mk (fun hlt => ?_) (fun hlt => ?_)
    · have hil : i < p.length := by omega
      have hg := pks_get hil
      have hat := hat2 hil
      unfold sel at hs2 hat
      generalize p.getD i pk0 = x at *
      (repeat' (conv => whnf); first | refine ⟨i, _, rfl, hg, ?_⟩ | (refine aC (fun _ => ?_) (fun _ => ?_) <;> try (exfalso; omega)) | refine aS ?_ | refine aG ?_ | refine aD ?_ | refine aH ?_ | refine aP_T4 ?_ | refine aI ?_ | refine aJ ?_ | refine YOb.mk rfl ?_ | (refine YieldOb.mk 1 hm [0, 1] (hat (by omega)) rfl (ImpL.refl _) rfl rfl rfl ?_; rintro _ _ ⟨rfl, rfl⟩) | fail); all_goals try (conv => whnf)
      all_goals first
        | exact ⟨(i + 1, true), [0, 1], by dsimp only; omega, by dsimp only; omega, by dsimp only; rw [hs2 (by omega)]; (exact aL)⟩
        | exact ⟨(i + 1, false), [0, 1, 3], by dsimp only; omega, by dsimp only; omega, by dsimp only; (exact aL)⟩
        | trace_state
    · have e : i = p.length := by omega
      subst e
      (repeat' (conv => whnf); first | (refine aC (fun _ => ?_) (fun _ => ?_) <;> try (exfalso; omega)) | refine aS ?_ | refine aG ?_ | refine aD ?_ | refine aH ?_ | refine aP_T4 ?_ | refine aI ?_ | refine aJ ?_ | fail); all_goals try (conv => whnf)
      all_goals first | exact .inl rfl | trace_state
  | false =>
    dsimp only
    (repeat' (conv => whnf); first | refine aS ?_ | refine aG ?_ | refine aD ?_ | refine aH ?_ | refine aP_T4 ?_ | refine aI ?_ | refine aJ ?_ | fail); all_goals try (conv => whnf)
    refine CondOb.mk (fun hlt => ?_) (fun hlt => ?_)
    · have hil : i < p.length := by omega
      have hg := pks_get hil
      have hat := hat2 hil
      unfold sel at hs2 hat
      generalize p.getD i pk0 = x at *
      (repeat' (conv => whnf); first | refine ⟨i, _, rfl, hg, ?_⟩ | (refine aC (fun _ => ?_) (fun _ => ?_) <;> try (exfalso; omega)) | refine aS ?_ | refine aG ?_ | refine aD ?_ | refine aH ?_ | refine aP_T4 ?_ | refine aI ?_ | refine aJ ?_ | refine YOb.mk rfl ?_ | (refine YieldOb.mk 1 hm [0, 2] (hat (by omega)) rfl (ImpL.refl _) rfl rfl rfl ?_; rintro _ _ ⟨rfl, rfl⟩) | fail); all_goals try (conv => whnf)
      all_goals first
        | exact ⟨(i + 1, false), [0, 1, 2], by dsimp only; omega, by dsimp only; omega, by dsimp only; rw [hs2 (by omega)]; (exact aL)⟩
        | exact ⟨(i + 1, false), [0, 1, 4], by dsimp only; omega, by dsimp only; omega, by dsimp only; (exact aL)⟩
        | trace_state
    · have e : i = p.length := by omega
      subst e
      (repeat' (conv => whnf); first | (refine aC (fun _ => ?_) (fun _ => ?_) <;> try (exfalso; omega)) | refine aS ?_ | refine aG ?_ | refine aD ?_ | refine aH ?_ | refine aP_T4 ?_ | refine aI ?_ | refine aJ ?_ | fail); all_goals try (conv => whnf)
      all_goals first | exact .inr rfl | trace_state
/- the packets of a flow -/
def sels (p : List Pk) (flow : Int) : List Pk := slP (selN p flow p.length)
theorem pks_app (l : List Pk) (x : Pk) : pks (l ++ [x]) = pks l ++ [pkw x] := by simp [pks]
theorem Select_ok (p : List Pk) (hp : p.length ≤ 1000000) (flow : Int) : Ctr Try.prog 49 [.psl 3 (pks p), i64 flow] [] (fun r o => o = [] ∧ r = .psl 3 (pks (sels p flow))) := by
  refine Ctr.imp ?_
  refine fn_introR (E := env 0) tys_ok rfl rfl rfl Try.func49 (by kernel_rfl) rfl (by kernel_rfl) ?_
  have hlt := selN_len p flow p.length
  obtain ⟨xs, hxs⟩ : ∃ xs, selN p flow p.length = xs := ⟨_, rfl⟩
  rw [hxs] at hlt
  (repeat' (conv => whnf); first | refine AsgOb.nil ?_ | (refine aC (fun _ => ?_) (fun _ => ?_) <;> try (exfalso; omega)) | refine aS ?_ | refine aG ?_ | refine aD ?_ | refine aP_T4 ?_ | refine aI ?_ | refine aJ ?_ | (refine Gh.mk [] ?_; (conv => whnf); refine aK [] (of_ok p flow) ?_) | fail); all_goals try (conv => whnf)
  refine .mk [.nb 0 0 3] ?_
  refine RangeOb.mk 1 (xs.map rnd) (fun j o => o = slA (xs.take j)) (fun j o => o = slB (xs.take j)) (fun j o => o = slA (xs.take j) ∨ o = slB (xs.take j)) (by kernel_rfl) (fun r hr => by obtain ⟨x, _, rfl⟩ := List.mem_map.1 hr; rfl) ?_ ?_ ?_
  · intro Y hm hY
    rw [List.length_map, ← hxs, List.take_length]
    refine of1S Y hm p (by omega) flow fun j x hx => ?_
    rw [hxs] at hx ⊢
    exact hY j _ (rnd x) rfl (by rw [List.getElem?_map, hx]; rfl)
  · rintro j o r rfl hr
    rw [List.getElem?_map] at hr
    cases hx : xs[j]? with
    | none => rw [hx] at hr; cases hr
    | some x =>
      rw [hx] at hr; cases hr
      have ht : pks (slP (xs.take (j + 1))) = pks (slP (xs.take j)) ++ [pkw x.2] := by
        obtain ⟨hj, e⟩ := List.getElem?_eq_some_iff.1 hx
        rw [List.take_succ_eq_append_getElem hj, e, ← pks_app]
        simp [slP]
      have hll : (pks (slP (xs.take j))).length ≤ 1000000 := by simp; omega
      unfold slB
      rw [ht]
      unfold slA
      generalize pks (slP (xs.take j)) = V at *
      obtain ⟨i, x⟩ := x
      rw [show rnd (i, x) = [i64 i, .agg (pkw x)] from rfl]
      (repeat' (conv => whnf); first | (refine aC (fun _ => ?_) (fun _ => ?_) <;> try (exfalso; omega)) | refine aS ?_ | refine aG ?_ | refine aD ?_ | refine aP_T4 ?_ | refine aI ?_ | refine aJ ?_ | fail); all_goals try (conv => whnf)
      refine .mk [.wk [0, 1, 4] ⟨[], [.box [.vec 2], .dead, .vec 3 (V ++ [pkw x])]⟩] ⟨by (exact aL), ?_⟩
      (repeat' (conv => whnf); first | (refine aC (fun _ => ?_) (fun _ => ?_) <;> try (exfalso; omega)) | refine aS ?_ | refine aG ?_ | refine aD ?_ | refine aH ?_ | refine aP_T4 ?_ | refine aI ?_ | refine aJ ?_ | fail); all_goals try (conv => whnf)
      all_goals trace_state
  · have e : sels p flow = slP xs := by unfold sels; rw [hxs]
    rintro o (rfl | rfl)
    · rw [List.length_map, List.take_length, e]
      (repeat' (conv => whnf); first | (refine aC (fun _ => ?_) (fun _ => ?_) <;> try (exfalso; omega)) | refine aS ?_ | refine aG ?_ | refine aD ?_ | refine aP_T4 ?_ | refine aI ?_ | refine aJ ?_ | fail); all_goals try (conv => whnf)
      refine .mk [.fz 1] ?_
      (repeat' (conv => whnf); first | (refine aC (fun _ => ?_) (fun _ => ?_) <;> try (exfalso; omega)) | refine aS ?_ | refine aG ?_ | refine aD ?_ | refine aH ?_ | refine aP_T4 ?_ | refine aI ?_ | refine aJ ?_ | fail); all_goals try (conv => whnf)
      exact ⟨rfl, Imp.refl _⟩
    · rw [List.length_map, List.take_length, e]
      (repeat' (conv => whnf); first | (refine aC (fun _ => ?_) (fun _ => ?_) <;> try (exfalso; omega)) | refine aS ?_ | refine aG ?_ | refine aD ?_ | refine aP_T4 ?_ | refine aI ?_ | refine aJ ?_ | fail); all_goals try (conv => whnf)
      refine .mk [.fz 2] ?_
      (repeat' (conv => whnf); first | (refine aC (fun _ => ?_) (fun _ => ?_) <;> try (exfalso; omega)) | refine aS ?_ | refine aG ?_ | refine aD ?_ | refine aH ?_ | refine aP_T4 ?_ | refine aI ?_ | refine aJ ?_ | fail); all_goals try (conv => whnf)
      exact ⟨rfl, Imp.refl _⟩
end Go.Proofs.Ytifcdempdcolkab
