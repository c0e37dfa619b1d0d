/-
  A text of the proofs of this seat: lemmas that the statements' proofs use; it states nothing of the program by itself beyond the contracts that its theorems bear. Conditions: those that stand in each theorem. Its short name: E8.
-/
import Derived.Test.YtifcdempdcolkabE7
set_option linter.unusedVariables false
set_option linter.unusedSimpArgs false
namespace Go.Proofs.Ytifcdempdcolkab
open Go.Sx Go.Pk Go.Cv Go.St
set_option maxRecDepth 4000
set_option maxHeartbeats 2000000
--APPX pks_len, avs_len, Go.Cv.vals_len
/-! whole packets, however the trace is -/
theorem smL_mono {l : List Pk} (h : ∀ x ∈ l, 0 ≤ x.s ∧ x.s ≤ 1000000) {j : Nat} : ∀ {k : Nat}, j ≤ k → k ≤ l.length → smL l j ≤ smL l k
  | 0, h0, _ => by have : j = 0 := by omega
                   subst this; exact Int.le_refl _
  | k + 1, h0, h1 => by
    by_cases e : j = k + 1
    · subst e; exact Int.le_refl _
    · have ih := smL_mono h (j := j) (k := k) (by omega) (by omega)
      have h2 := h _ (getD_memP (l := l) (i := k) (by omega))
      simp only [smL] at *; omega
theorem bsL_stop {l : List Pk} (h : ∀ x ∈ l, 0 ≤ x.s ∧ x.s ≤ 1000000) {n : Int} {j : Nat} (hj : n < smL l (j + 1)) : ∀ {k : Nat}, j ≤ k → k ≤ l.length → bsL l n k = bsL l n j
  | 0, h0, _ => by have : j = 0 := by omega
                   subst this; rfl
  | k + 1, h0, h1 => by
    by_cases e : j = k + 1
    · subst e; rfl
    · have ih := bsL_stop h hj (k := k) (by omega) (by omega)
      have : smL l (j + 1) ≤ smL l (k + 1) := smL_mono h (by omega) h1
      simp only [bsL]
      rw [if_neg (by omega), ih]
noncomputable def whG (p : List Pk) (flow n : Int) : Int := if vld p = 0 then whl (sels p flow) n else 0
theorem aP_E8 {A B K : Prop} (k : K) (a : A := by (simp only [zA, zT, zD, zC, zN, ints_len, zR, pks_len, avs_len, Go.Cv.vals_len]; omega)) (b : B := by (simp only [zA, zT, zD, zC, zN, ints_len, zR, pks_len, avs_len, Go.Cv.vals_len]; omega)) : (A ∧ B) ∧ K := ⟨⟨a, b⟩, k⟩
theorem WholeG_ok (p : List Pk) (hp : p.length ≤ 1000000) (flow n : Int) : Ctr Try.prog 27 [.psl 3 (pks p), i64 flow, i64 n] [] (fun r o => o = [] ∧ r = i64 (whG p flow n)) := by
  by_cases h0 : vld p = 0
  · have := Whole_ok p (vld_zero.1 h0) flow n
    unfold whG; rw [if_pos h0]; exact this
  unfold whG; rw [if_neg h0]
  refine fn_intro (E := env 0) tys_ok rfl rfl rfl Try.func27 (by kernel_rfl) rfl (by kernel_rfl) ?_
  have cV := Validate_ok p hp
  (repeat' (conv => whnf); first | (refine aC (fun _ => ?_) (fun _ => ?_) <;> try (exfalso; omega)) | refine aS ?_ | refine aG ?_ | refine aD ?_ | refine aH ?_ | refine aP_E8 ?_ | refine aI ?_ | refine aJ ?_ | (refine aK [] cV ?_) | fail); all_goals try (conv => whnf)
  all_goals first
    | exact ⟨rfl, rfl⟩
    | exact absurd (Classical.not_not.1 (by assumption)) h0
    | trace_state
theorem rWhole_ok (p : List Pk) (hp : p.length ≤ 1000000) (flow n : Int) : Ctr Try.prog 28 [.psl 3 (pks p), i64 flow, i64 n] [] (fun r o => o = [] ∧ r = i64 (whG p flow n)) := by
  refine fn_intro (E := env 0) tys_ok rfl rfl rfl Try.func28 (by kernel_rfl) rfl (by kernel_rfl) ?_
  have cV := rVal13_ok p hp
  have hpl := pks_len p
  have hw : vld p = 0 → whG p flow n = bsL (sels p flow) n (sels p flow).length := fun h => by unfold whG; rw [if_pos h]; rfl
  have hw0 : vld p ≠ 0 → whG p flow n = 0 := fun h => by unfold whG; rw [if_neg h]
  have hv : vld p = 0 → Vld p := vld_zero.1
  generalize whG p flow n = w at *
  generalize vld p = v at *
  (repeat' (conv => whnf); first | (refine aC (fun _ => ?_) (fun _ => ?_) <;> try (exfalso; omega)) | refine aS ?_ | refine aG ?_ | refine aD ?_ | refine aH ?_ | refine aP_E8 ?_ | refine aI ?_ | refine aJ ?_ | (refine aK [] cV ?_) | fail); all_goals try (conv => whnf)
  · exact ⟨rfl, by rw [hw0 (by assumption)]; rfl⟩
  have h0 : v = 0 := Classical.not_not.1 (by assumption)
  have hw := hw h0
  have hv := hv h0
  clear hw0
  have hp60 := hv.l
  have hsm : ∀ x ∈ sels p flow, 0 ≤ x.s ∧ x.s ≤ 1000000 := fun x hx => by
    obtain ⟨y, hy, rfl⟩ := List.mem_map.1 hx
    exact hv.sml _ (selN_mem (Nat.le_refl _) y hy).2.2
  have hSl : (sels p flow).length = (selN p flow p.length).length := by simp [sels]
  have hat : ∀ i, i < p.length → sel flow (p.getD i pk0) → (selN p flow i).length < (sels p flow).length ∧ (sels p flow).getD (selN p flow i).length pk0 = p.getD i pk0 := fun i hi h => by
    have h1 := selN_at hi h
    obtain ⟨h2, h3⟩ := List.getElem?_eq_some_iff.1 h1
    refine ⟨by rw [hSl]; exact h2, ?_⟩
    rw [List.getD_eq_getElem?_getD]
    unfold sels slP
    rw [List.getElem?_map, h1]; rfl
  obtain ⟨S, hS⟩ : ∃ S, sels p flow = S := ⟨_, rfl⟩
  rw [hS] at hw hsm hSl hat
  refine LoopOb.mk (Y := Nat) (st := fun i => ⟨[(8, i64 i), (7, i64 (smL S (selN p flow i).length)), (0, .psl 3 (pks p)), (1, i64 flow), (2, i64 n)], []⟩)
    (inv := fun i => i ≤ p.length ∧ bsL S n (selN p flow i).length = smL S (selN p flow i).length) (fun i => p.length - i) 0 [] ⟨by omega, rfl⟩ (by (exact aL)) ?_
  rintro i ⟨hi, hb⟩
  (repeat' (conv => whnf); first | refine aS ?_ | refine aG ?_ | refine aD ?_ | refine aH ?_ | refine aP_E8 ?_ | refine aI ?_ | refine aJ ?_ | fail); all_goals try (conv => whnf)
  refine CondOb.mk (fun hlt => ?_) (fun hlt => ?_)
  · have hil : i < p.length := by omega
    have hg2 := pks_get hil
    have hnb := hv.g i hil
    have hat := hat i hil
    have hstp := selN_step p flow i
    have hnn := smL_bd hsm (selN p flow i).length (by have := selN_len p flow i; by_cases h : sel flow (p.getD i pk0) <;> first | (have := (hat h).1; omega) | (rw [hSl]; obtain ⟨r, hr⟩ := selN_pre p flow (i := i) (m := p.length) hi; rw [hr]; simp))
    have hlen := selN_len p flow i
    have hno : ¬sel flow (p.getD i pk0) → bsL S n (selN p flow (i + 1)).length = smL S (selN p flow (i + 1)).length ∧ smL S (selN p flow (i + 1)).length = smL S (selN p flow i).length := fun h => by rw [hstp.2 h]; exact ⟨hb, rfl⟩
    have hyes : sel flow (p.getD i pk0) → smL S (selN p flow (i + 1)).length = smL S (selN p flow i).length + (p.getD i pk0).s ∧ (n < smL S (selN p flow i).length + (p.getD i pk0).s → w = smL S (selN p flow i).length) ∧ (smL S (selN p flow i).length + (p.getD i pk0).s ≤ n → bsL S n (selN p flow (i + 1)).length = smL S (selN p flow (i + 1)).length) := fun h => by
      obtain ⟨a1, a2⟩ := hat h
      have e1 : smL S ((selN p flow i).length + 1) = smL S (selN p flow i).length + (p.getD i pk0).s := by rw [← a2]; rfl
      have e2 : (selN p flow (i + 1)).length = (selN p flow i).length + 1 := by rw [hstp.1 h]; simp
      rw [e2, e1]
      refine ⟨rfl, fun hn => ?_, fun hn => ?_⟩
      · rw [hw, ← hb]
        exact bsL_stop hsm (by rw [e1]; exact hn) (by omega) (Nat.le_refl _)
      · simp only [bsL]
        rw [if_pos (by rw [e1]; exact hn), hb, e1]
        unfold bad at hnb
        omega
    have hsel : sel flow (p.getD i pk0) ↔ flow = -1 ∨ ((p.getD i pk0).f = flow ∧ 0 ≤ flow) := Iff.rfl
    unfold bad at hnb
    generalize sel flow (p.getD i pk0) = Q at *
    generalize smL S (selN p flow i).length = s0 at *
    generalize p.getD i pk0 = x at *
    (repeat' (conv => whnf); first | refine ⟨i, _, rfl, hg2, ?_⟩ | (refine aC (fun _ => ?_) (fun _ => ?_) <;> try (exfalso; omega)) | refine aS ?_ | refine aG ?_ | refine aD ?_ | refine aH ?_ | refine aP_E8 ?_ | refine aI ?_ | refine aJ ?_ | fail); all_goals try (conv => whnf)
    all_goals first
      | exact ⟨rfl, by rw [(hyes (hsel.2 (by omega))).2.1 (by assumption)]; rfl⟩
      | exact ⟨i + 1, [], ⟨by omega, (hyes (hsel.2 (by omega))).2.2 (by omega)⟩, by omega, by rw [(hyes (hsel.2 (by omega))).1]; (exact aL)⟩
      | exact ⟨i + 1, [], ⟨by omega, (hno (fun h => by have := hsel.1 h; omega)).1⟩, by omega, by rw [(hno (fun h => by have := hsel.1 h; omega)).2]; (exact aL)⟩
      | trace_state
  have e : i = p.length := by omega
  subst e
  have : w = smL S (selN p flow p.length).length := by rw [hw, ← hb, hSl]
  rw [this]
  (repeat' (conv => whnf); first | (refine aC (fun _ => ?_) (fun _ => ?_) <;> try (exfalso; omega)) | refine aS ?_ | refine aG ?_ | refine aD ?_ | refine aH ?_ | refine aP_E8 ?_ | refine aI ?_ | refine aJ ?_ | fail); all_goals try (conv => whnf)
  exact ⟨rfl, rfl⟩
end Go.Proofs.Ytifcdempdcolkab
