/-
  A text of the proofs of this seat: lemmas that the statements' proofs use; it states nothing of the program by itself beyond the contracts that its theorems bear. Conditions: those that stand in each theorem. Its short name: Mv Ri.
-/
import Derived.Test.YtaomhdljcdadaaaGreatSo8
import Derived.Test.YtaomhdljcdadaaaGreatN7
set_option linter.unusedVariables false
set_option linter.unusedSimpArgs false
section
namespace Go.Mc
open Go.Pk Go.Np Go.Cv
/-! the example of the chapter -/
abbrev twL : Ln := ⟨1, 10, 1, [], []⟩
abbrev twF : Fl := ⟨⟨#[102]⟩, [0, 1], 0, 1, 50, [0, 100], 1, 1⟩
def twN : Nt := ⟨[⟨#[97]⟩, ⟨#[98]⟩], [twL, twL], [twF]⟩
abbrev twP : List Pk := [⟨0, 0, 25⟩]
theorem tw_val : ValidP twF.v twF.p twF.q ∧ FinP twF.v := by
  refine ⟨⟨by decide, by decide, by decide, by decide, by decide, by decide, by decide, ?_, ?_, ?_, ?_⟩, by unfold FinP; decide⟩
  · intro j hj
    have : j = 0 ∨ j = 1 := by have : twF.v.length = 2 := rfl; omega
    rcases this with rfl | rfl <;> decide
  · intro j hj
    have : j = 0 := by have : twF.v.length = 2 := rfl; omega
    subst this; decide
  · decide
  · decide
theorem tw_chk : chkN twN = 0 := by
  refine chkN_ok (by decide) rfl ?_ ?_
  · intro j hj
    have h3 : j = 0 ∨ j = 1 := by have : twN.ln.length = 2 := rfl; omega
    have e : twN.nm.getD j bs0 = lname j ∧ twN.ln.getD j ln0 = twL := by rcases h3 with rfl | rfl <;> exact ⟨rfl, rfl⟩
    have hf : nmErr (twN.nm.take j) (twN.nm.getD j bs0) = 0 := by
      rw [e.1]
      refine nm_fresh (lname_word j (by omega)) fun h => ?_
      obtain ⟨k, hk, hk2, e2⟩ := mem_take (d := bs0) h
      have e3 : twN.nm.getD k bs0 = lname k := by rcases (show k = 0 ∨ k = 1 by omega) with rfl | rfl <;> rfl
      rw [e3] at e2
      have := lname_inj j (by omega) k (by omega) e2
      omega
    unfold lineE
    rw [hf, if_neg (by simp), e.2]
    decide +kernel
  · intro j hj
    have : j = 0 := by have : twN.fl.length = 1 := rfl; omega
    subst this
    have hf : nmErr ((twN.fl.take 0).map (·.nm)) (twN.fl.getD 0 fl0).nm = 0 := nm_fresh (fname_word 0 (by decide)) (by simp)
    have hr : routeE twN.ln (twN.fl.getD 0 fl0) = 0 := by decide +kernel
    unfold flowE
    rw [hf, if_neg (by simp), hr, if_neg (by simp)]
    have hG : twN.fl.getD 0 fl0 = twF := rfl
    rw [hG]
    unfold trafE
    rw [if_neg (by decide), if_neg (fun k => k tw_val.1), if_neg (by decide), if_neg (fun k => k tw_val.2)]
theorem tw_sk : SkP twN twP := by
  refine ⟨tw_chk, by decide, fun i hi => ?_, fun i hi => ?_⟩
  · have : i = 0 := by have : twP.length = 1 := rfl; omega
    subst this; decide
  · have : i = 0 := by have : twP.length = 1 := rfl; omega
    subst this; decide
/- the trip of the example -/
theorem tw_tr {Z : Li} (h0 : Z.C 0 = fifoC ∧ Z.c 0 = 10) (h1 : Z.C 1 = fifoC ∧ Z.c 1 = 10) : trR (toF twN twP) Z 100 = [[2, 5]] := by
  have hlen : ((toF twN twP).rt 0).length = 2 := rfl
  have hf : ∀ h, h < ((toF twN twP).rt 0).length → Z.C (lin (toF twN twP) 0 h) = fifoC ∧ 1 ≤ Z.c (lin (toF twN twP) 0 h) ∧ 2 * Z.c (lin (toF twN twP) 0 h) < 25 ∧ 25 ≤ (2 + 1) * Z.c (lin (toF twN twP) 0 h) := by
    intro h hh
    rw [hlen] at hh
    rcases (show h = 0 ∨ h = 1 by omega) with rfl | rfl
    · have e : lin (toF twN twP) 0 0 = 0 := rfl
      rw [e, h0.1, h0.2]; exact ⟨rfl, by omega, by omega, by omega⟩
    · have e : lin (toF twN twP) 0 1 = 1 := rfl
      rw [e, h1.1, h1.2]; exact ⟨rfl, by omega, by omega, by omega⟩
  have key := tr_one (F := toF twN twP) (Z := Z) (N := 100) (t := 0) (z := 25) (K := fun _ => 2) rfl tw_sk.rts rfl rfl hf
  have e0 := key 0 (by rw [hlen]; omega) (by decide)
  have e1 := key 1 (by rw [hlen]; omega) (by decide)
  have : trR (toF twN twP) Z 100 = [[tr (toF twN twP) Z 100 0 0, tr (toF twN twP) Z 100 0 1]] := rfl
  rw [this, e0, e1]; rfl
theorem tw_qu : quL twN twP (dR [[2, 5]]) 1 twP.length = [⟨3, 0, 0⟩] := by
  rw [show (1 : Int) = ((1 : Nat) : Int) from rfl, quL_nat]
  have h1 : hp (toF twN twP) 1 0 = some 1 := by decide
  refine qu_one (F := toF twN twP) rfl (h := 1) h1 ?_
  unfold arr
  rw [if_neg (by omega), if_pos]
  · rfl
  · intro j hj
    have : j = 0 := by omega
    subst this; decide
theorem tw_arr : arO twN twP (dR [[2, 5]]) 0 1 = some 3 := by
  have h : hps twN twP 0 = 2 := by decide
  rw [arO_pos (by rw [h]; omega) (by omega), if_pos]
  · rfl
  · intro j hj
    have : j = 0 := by have : (1 : Int).toNat = 1 := rfl; omega
    subst this; decide
end Go.Mc
end
section
namespace Go.Proofs.YtaomhdljcdadaaaGreat
open Go.Sx Go.Np
set_option maxRecDepth 4000
set_option maxHeartbeats 2000000
theorem aP_Ri {A B K : Prop} (k : K) (a : A := by (simp only [zA, zT, zD, zC, zN, ints_len, zR, Go.Cv.vals_len]; omega)) (b : B := by (simp only [zA, zT, zD, zC, zN, ints_len, zR, Go.Cv.vals_len]; omega)) : (A ∧ B) ∧ K := ⟨⟨a, b⟩, k⟩
theorem rInts_ok (a b : List Int) (ha : a.length ≤ 9223372036854775807) : Ctr Tryz.prog 88 [.psl 1 (ints a), .psl 1 (ints b)] [] (fun r o => o = [] ∧ r = .bp (a = b)) := by
  refine Ctr.imp ?_
  refine fn_intro (E := env 0) tys_ok rfl rfl rfl Tryz.func88 (by kernel_rfl) rfl (by kernel_rfl) ?_
  have hla := ints_len a
  have hlb := ints_len b
  (repeat' (conv => whnf); first | (refine aC (fun _ => ?_) (fun _ => ?_) <;> try (exfalso; omega)) | refine aS ?_ | refine aG ?_ | refine aD ?_ | refine aH ?_ | refine aP_Ri ?_ | refine aI ?_ | refine aJ ?_ | refine aW (.qs [0, 1, 2, 3, 4, 5, 6, 7, 8] .nil) ?_ | fail); all_goals try (conv => whnf)
  · exact ⟨rfl, Imp.bl ⟨fun h => (by cases h), fun h => by subst h; omega⟩⟩
  have hab : a.length = b.length := by omega
  refine LoopOb.mk (Y := Nat) (st := fun i => ⟨[(5, i64 i), (1, .psl 1 (ints b)), (0, .psl 1 (ints a))], []⟩)
    (inv := fun i => i ≤ a.length ∧ ∀ j < i, a.getD j 0 = b.getD j 0) (fun i => a.length - i) 0 [] ⟨by omega, by omega⟩ (by (exact aL)) ?_
  rintro i ⟨hi, hv⟩
  (repeat' (conv => whnf); first | refine aS ?_ | refine aG ?_ | refine aD ?_ | refine aH ?_ | refine aP_Ri ?_ | refine aI ?_ | refine aJ ?_ | refine aW (.qs [0, 1, 2, 3, 4, 5, 6, 7, 8] .nil) ?_ | fail); all_goals try (conv => whnf)
  refine CondOb.mk (fun hlt => ?_) (fun hlt => ?_)
  · have hst : a.getD i 0 = b.getD i 0 → ∀ j < i + 1, a.getD j 0 = b.getD j 0 := fun h j hj => by
      by_cases e : j = i
      · rw [e]; exact h
      · exact hv j (by omega)
    (repeat' (conv => whnf); first | (refine aC (fun _ => ?_) (fun _ => ?_) <;> try (exfalso; omega)) | refine aS ?_ | refine aG ?_ | refine aD ?_ | refine aH ?_ | refine aP_Ri ?_ | refine aI ?_ | refine aJ ?_ | refine aW (.qs [0, 1, 2, 3, 4, 5, 6, 7, 8] .nil) ?_ | fail); all_goals try (conv => whnf)
    · exact ⟨rfl, Imp.bl ⟨fun h => (by cases h), fun h => by subst h; exact absurd rfl (by assumption)⟩⟩
    · exact ⟨i + 1, [], ⟨by omega, hst (by omega)⟩, by omega, by (exact aL)⟩
  · (repeat' (conv => whnf); first | refine aC (fun _ => ?_) (fun _ => ?_) | refine aS ?_ | refine aG ?_ | refine aD ?_ | refine aH ?_ | refine aP_Ri ?_ | refine aI ?_ | refine aJ ?_ | refine aW (.qs [0, 1, 2, 3, 4, 5, 6, 7, 8] .nil) ?_ | fail); all_goals try (conv => whnf)
    refine ⟨rfl, Imp.bl ⟨fun _ => ?_, fun _ => rfl⟩⟩
    apply List.ext_getElem hab
    intro j h1 h2
    have := hv j (by omega)
    rw [List.getD_eq_getElem?_getD, List.getD_eq_getElem?_getD, List.getElem?_eq_getElem h1, List.getElem?_eq_getElem h2, Option.getD_some, Option.getD_some] at this
    exact this
end Go.Proofs.YtaomhdljcdadaaaGreat
end
