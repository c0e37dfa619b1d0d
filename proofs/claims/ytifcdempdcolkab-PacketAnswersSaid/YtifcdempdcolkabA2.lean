/-
  A text of the proofs of this seat: lemmas that the statements' proofs use; it states nothing of the program by itself beyond the contracts that its theorems bear. Conditions: those that stand in each theorem. Its short name: A2.
-/
import Derived.Test.YtifcdempdcolkabT4
import Derived.Test.YtifcdempdcolkabA1
import Derived.Test.YtifcdempdcolkabPl
set_option linter.unusedVariables false
set_option linter.unusedSimpArgs false
namespace Go.Proofs.Ytifcdempdcolkab
open Go.Sx Go.Pk Go.Cv Go.St
set_option maxRecDepth 4000
set_option maxHeartbeats 2000000
--APPX pks_len, avs_len
/- ticks in which packets are finished -/
structure OKd (p : List Pk) (d : List Int) : Prop where
  l : d.length = p.length
  g : ∀ i, i < p.length → d.getD i 0 = -1 ∨ ((p.getD i pk0).t ≤ d.getD i 0 ∧ d.getD i 0 < 2000)
theorem aP_A2 {A B K : Prop} (k : K) (a : A := by (simp only [zA, zT, zD, zC, zN, ints_len, zR, pks_len, avs_len]; omega)) (b : B := by (simp only [zA, zT, zD, zC, zN, ints_len, zR, pks_len, avs_len]; omega)) : (A ∧ B) ∧ K := ⟨⟨a, b⟩, k⟩
theorem check_ok (p : List Pk) (hv : Vld p) (d : List Int) (hd : OKd p d) : Ctr Try.prog 44 [.psl 3 (pks p), .psl 1 (ints d)] [] (fun r o => o = [] ∧ r = i64 0) := by
  refine fn_intro (E := env 0) tys_ok rfl rfl rfl Try.func44 (by kernel_rfl) rfl (by kernel_rfl) ?_
  have hpl := pks_len p
  have hdl := ints_len d
  have hl := hd.l
  have hp := hv.l
  have cV := Validate_ok p (by omega)
  rw [vld_zero.2 hv] at cV
  (repeat' (conv => whnf); first | (refine aC (fun _ => ?_) (fun _ => ?_) <;> try (exfalso; omega)) | refine aS ?_ | refine aG ?_ | refine aD ?_ | refine aH ?_ | refine aP_A2 ?_ | refine aI ?_ | refine aJ ?_ | (refine aK [] cV ?_) | fail); all_goals try (conv => whnf)
  refine LoopOb.mk (Y := Nat) (st := fun i => ⟨[(20, i64 i), (19, i64 (ints d).length), (18, .psl 1 (ints d)), (0, .psl 3 (pks p))], []⟩)
    (inv := fun i => i ≤ d.length) (fun i => d.length - i) 0 [] (by omega) (by (exact aL)) ?_
  intro i hi
  (repeat' (conv => whnf); first | refine aS ?_ | refine aG ?_ | refine aD ?_ | refine aH ?_ | refine aP_A2 ?_ | refine aI ?_ | refine aJ ?_ | fail); all_goals try (conv => whnf)
  refine CondOb.mk (fun hlt => ?_) (fun hlt => ?_)
  · have hil : i < p.length := by omega
    have hg1 := ints_get (l := d) (j := i) (by omega)
    have hg2 := pks_get hil
    have hb := hd.g i hil
    have hb2 := hv.g i hil
    unfold bad at hb2
    generalize d.getD i 0 = t at *
    generalize p.getD i pk0 = x at *
    (repeat' (conv => whnf); first | refine ⟨i, _, rfl, hg2, ?_⟩ | refine ⟨i, _, rfl, hg1, ?_⟩ | (refine aC (fun _ => ?_) (fun _ => ?_) <;> try (exfalso; omega)) | refine aS ?_ | refine aG ?_ | refine aD ?_ | refine aH ?_ | refine aP_A2 ?_ | refine aI ?_ | refine aJ ?_ | fail); all_goals try (conv => whnf)
    all_goals first
      | exact ⟨i + 1, [], by omega, by omega, by (exact aL)⟩
      | (exfalso; omega)
      | trace_state
  · (repeat' (conv => whnf); first | (refine aC (fun _ => ?_) (fun _ => ?_) <;> try (exfalso; omega)) | refine aS ?_ | refine aG ?_ | refine aD ?_ | refine aH ?_ | refine aP_A2 ?_ | refine aI ?_ | refine aJ ?_ | fail); all_goals try (conv => whnf)
    exact ⟨rfl, rfl⟩
/- how long packets have waited -/
def dly (p : List Pk) (d : List Int) (i : Nat) : Int := if d.getD i 0 = -1 then -1 else d.getD i 0 - (p.getD i pk0).t
theorem Delays_ok (p : List Pk) (hv : Vld p) (d : List Int) (hd : OKd p d) : Ctr Try.prog 23 [.psl 3 (pks p), .psl 1 (ints d)] [] (fun r o => o = [] ∧ r = .tup [.psl 1 (ints (vals (dly p d) p.length)), i64 0]) := by
  refine Ctr.imp ?_
  refine fn_intro (E := env 0) tys_ok rfl rfl rfl Try.func23 (by kernel_rfl) rfl (by kernel_rfl) ?_
  have hpl := pks_len p
  have hdl := ints_len d
  have hl := hd.l
  have hp := hv.l
  have cC := check_ok p hv d hd
  obtain ⟨V, hV⟩ : ∃ V, vals (dly p d) p.length = V := ⟨_, rfl⟩
  have hVl : V.length = p.length := by rw [← hV, vals_len]
  have hVi := ints_len V
  have hVg : ∀ i, i < p.length → (ints V)[i]? = some [i64 (dly p d i)] := fun i hi => by
    have := ints_get (l := V) (j := i) (by omega)
    rw [this, ← hV, vals_get hi]
  rw [hV]
  clear hV
  (repeat' (conv => whnf); first | refine AsgOb.nil ?_ | (refine aC (fun _ => ?_) (fun _ => ?_) <;> try (exfalso; omega)) | refine aS ?_ | refine aG ?_ | refine aD ?_ | refine aH ?_ | refine aP_A2 ?_ | refine aI ?_ | refine aJ ?_ | refine ⟨_, _, rfl, rfl, Nat.le_refl _, ⟨by (simp only; omega), by omega⟩, ?_⟩ | (refine aK [] cC ?_) | fail); all_goals try (conv => whnf)
  have e0 : List.replicate (pks p).length ([i64 0] : List SV) = prt (ints V) 0 [i64 0] := by rw [prt_zero, hVi, hVl, hpl]
  refine LoopOb.mk (Y := Nat) (st := fun i => ⟨[(21, i64 i), (20, i64 (ints d).length), (19, .psl 1 (ints d)), (7, .vec 0), (0, .psl 3 (pks p))], [.vec 1 (prt (ints V) i [i64 0])]⟩)
    (inv := fun i => i ≤ d.length) (fun i => d.length - i) 0 [0] (by omega) (by dsimp only; rw [← e0]; (exact aL)) ?_
  intro i hi
  have hql := prt_len (ints V) i [i64 0] (by omega)
  (repeat' (conv => whnf); first | refine aS ?_ | refine aG ?_ | refine aD ?_ | refine aH ?_ | refine aP_A2 ?_ | refine aI ?_ | refine aJ ?_ | fail); all_goals try (conv => whnf)
  refine CondOb.mk (fun hlt => ?_) (fun hlt => ?_)
  · have hil : i < p.length := by omega
    have hg1 := ints_get (l := d) (j := i) (by omega)
    have hg2 := pks_get hil
    have hs := fun x h => prt_set (l := ints V) (k := i) (x := x) [i64 0] h
    have hgv := hVg i hil
    have hb := hd.g i hil
    have hb2 := hv.g i hil
    unfold bad at hb2
    have h1 : d.getD i 0 = -1 → dly p d i = -1 := fun h => by unfold dly; rw [if_pos h]
    have h2 : ¬d.getD i 0 = -1 → dly p d i = d.getD i 0 - (p.getD i pk0).t := fun h => by unfold dly; rw [if_neg h]
    generalize d.getD i 0 = t at *
    generalize p.getD i pk0 = x at *
    generalize dly p d i = w at *
    have hsw := hs _ hgv
    have hll : ∀ q : List SV, ((prt (ints V) i [i64 0]).set i q).length = (ints V).length := fun q => by rw [List.length_set, hql]
    (repeat' (conv => whnf); first | refine ⟨_, List.getElem?_set_self (by omega), ?_⟩ | refine ⟨_, prt_get [i64 0] (by omega), ?_⟩ | refine ⟨i, by omega, by (first | omega | (rw [hll]; omega)), ?_⟩ | refine ⟨i, _, rfl, hg2, ?_⟩ | refine ⟨i, _, rfl, hg1, ?_⟩ | (refine aC (fun _ => ?_) (fun _ => ?_) <;> try (exfalso; omega)) | refine aS ?_ | refine aG ?_ | refine aD ?_ | refine aH ?_ | refine aP_A2 ?_ | refine aI ?_ | refine aJ ?_ | fail); all_goals try (conv => whnf)
    all_goals first
      | exact ⟨i + 1, [0], by omega, by omega, by rw [← hsw, h2 (by assumption), List.set_set]; (exact aL)⟩
      | exact ⟨i + 1, [0], by omega, by omega, by rw [← hsw, h1 (by omega)]; (exact aL)⟩
      | trace_state
  · have e : i = p.length := by omega
    have e2 : prt (ints V) i [i64 0] = ints V := by rw [show i = (ints V).length by omega, prt_full]
    rw [e2]
    (repeat' (conv => whnf); first | (refine aC (fun _ => ?_) (fun _ => ?_) <;> try (exfalso; omega)) | refine aS ?_ | refine aG ?_ | refine aD ?_ | refine aP_A2 ?_ | refine aI ?_ | refine aJ ?_ | fail); all_goals try (conv => whnf)
    refine .mk [.fz 0] ?_
    (repeat' (conv => whnf); first | (refine aC (fun _ => ?_) (fun _ => ?_) <;> try (exfalso; omega)) | refine aS ?_ | refine aG ?_ | refine aD ?_ | refine aH ?_ | refine aP_A2 ?_ | refine aI ?_ | refine aJ ?_ | fail); all_goals try (conv => whnf)
    exact ⟨rfl, Imp.refl _⟩
theorem Whole_ok (p : List Pk) (hv : Vld p) (flow n : Int) : Ctr Try.prog 27 [.psl 3 (pks p), i64 flow, i64 n] [] (fun r o => o = [] ∧ r = i64 (whl (sels p flow) n)) := by
  refine fn_intro (E := env 0) tys_ok rfl rfl rfl Try.func27 (by kernel_rfl) rfl (by kernel_rfl) ?_
  have hp := hv.l
  have cV := Validate_ok p (by omega)
  rw [vld_zero.2 hv] at cV
  have cS := Select_ok p (by omega) flow
  have hsm : ∀ x ∈ sels p flow, 0 ≤ x.s ∧ x.s ≤ 1000000 := fun x hx => by
    obtain ⟨y, hy, rfl⟩ := List.mem_map.1 hx
    exact hv.sml _ (selN_mem (Nat.le_refl _) y hy).2.2
  have hsl : (sels p flow).length ≤ 60 := by have := selN_len p flow p.length; simp only [sels, List.length_map]; omega
  generalize sels p flow = l at *
  have hpl := pks_len l
  (repeat' (conv => whnf); first | (refine aC (fun _ => ?_) (fun _ => ?_) <;> try (exfalso; omega)) | refine aS ?_ | refine aG ?_ | refine aD ?_ | refine aH ?_ | refine aP_A2 ?_ | refine aI ?_ | refine aJ ?_ | (refine aK [] cV ?_) | (refine aK [] cS ?_) | fail); all_goals try (conv => whnf)
  refine LoopOb.mk (Y := Nat) (st := fun i => ⟨[(18, i64 i), (17, i64 (pks l).length), (16, .psl 3 (pks l)), (8, i64 (smL l i)), (7, i64 (bsL l n i)), (2, i64 n)], []⟩)
    (inv := fun i => i ≤ l.length) (fun i => l.length - i) 0 [] (by omega) (by (exact aL)) ?_
  intro i hi
  have h1 := smL_bd hsm i hi
  (repeat' (conv => whnf); first | refine aS ?_ | refine aG ?_ | refine aD ?_ | refine aH ?_ | refine aP_A2 ?_ | refine aI ?_ | refine aJ ?_ | fail); all_goals try (conv => whnf)
  refine CondOb.mk (fun hlt => ?_) (fun hlt => ?_)
  · have hil : i < l.length := by omega
    have hg := pks_get hil
    have hb := hsm _ (getD_memP hil)
    have e1 : smL l (i + 1) = smL l i + (l.getD i pk0).s := rfl
    have e2 : smL l (i + 1) ≤ n → bsL l n (i + 1) = max (bsL l n i) (smL l (i + 1)) := fun h => by simp only [bsL]; rw [if_pos h]
    have e3 : ¬smL l (i + 1) ≤ n → bsL l n (i + 1) = bsL l n i := fun h => by simp only [bsL]; rw [if_neg h]
    generalize l.getD i pk0 = x at *
    rw [e1] at e2 e3
    generalize smL l i = s at *
    generalize bsL l n i = b at *
    (repeat' (conv => whnf); first | refine ⟨i, _, rfl, hg, ?_⟩ | (refine aC (fun _ => ?_) (fun _ => ?_) <;> try (exfalso; omega)) | refine aS ?_ | refine aG ?_ | refine aD ?_ | refine aH ?_ | refine aP_A2 ?_ | refine aI ?_ | refine aJ ?_ | fail); all_goals try (conv => whnf)
    all_goals first
      | exact ⟨i + 1, [], by omega, by omega, by rw [e1, e2 (by omega)]; (exact aL)⟩
      | exact ⟨i + 1, [], by omega, by omega, by rw [e1, e3 (by omega)]; (exact aL)⟩
      | trace_state
  · have e : i = l.length := by omega
    subst e
    (repeat' (conv => whnf); first | (refine aC (fun _ => ?_) (fun _ => ?_) <;> try (exfalso; omega)) | refine aS ?_ | refine aG ?_ | refine aD ?_ | refine aH ?_ | refine aP_A2 ?_ | refine aI ?_ | refine aJ ?_ | fail); all_goals try (conv => whnf)
    exact ⟨rfl, rfl⟩
end Go.Proofs.Ytifcdempdcolkab
