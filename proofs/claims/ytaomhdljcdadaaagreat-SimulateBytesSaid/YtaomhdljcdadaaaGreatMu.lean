/-
  A text of the proofs of this seat: lemmas that the statements' proofs use; it states nothing of the program by itself beyond the contracts that its theorems bear. Conditions: those that stand in each theorem. Its short name: Mu Mv Ri So9.
-/
import Derived.Test.YtaomhdljcdadaaaGreatSo7
import Derived.Test.YtaomhdljcdadaaaGreatS5
import Derived.Test.YtaomhdljcdadaaaGreatN6
import Derived.Test.YtaomhdljcdadaaaGreatKn
import Derived.Test.YtaomhdljcdadaaaGreatSxC
set_option linter.unusedVariables false
set_option linter.unusedSimpArgs false
section
namespace Go.Mc
open Go.Pk Go.Np
/-! one packet alone in a network -/
/- when it is done at each hop -/
def dnA (t : Nat) (K : Nat → Nat) : Nat → Nat
  | 0 => t + K 0
  | h + 1 => dnA t K h + 1 + K (h + 1)
theorem qu_one {F : Tf} (h1 : F.np = 1) {D : Tp} {l h : Nat} {a : Int} (hh : hp F l 0 = some h) (ha : arr F D 0 h = some a) : qu F D l = [⟨a, F.fl 0, 0⟩] := by
  refine (qu_ok F D l).uniq ⟨List.pairwise_singleton _ _, fun y => ?_⟩
  rw [List.mem_singleton]
  constructor
  · rintro rfl
    exact ⟨by rw [h1]; exact Nat.one_pos, ⟨h, hh, ha⟩, rfl⟩
  · rintro ⟨e1, ⟨k, e2, e3⟩, e4⟩
    have e0 : y.i = 0 := by omega
    rw [e0] at e2 e3 e4
    have ek : h = k := by rw [hh] at e2; exact Option.some.inj e2
    subst ek
    refine Wt.ext' ?_ e4 e0
    rw [ha] at e3; exact (Option.some.inj e3).symm
theorem tr_one {F : Tf} {Z : Li} {N t z : Nat} {K : Nat → Nat} (h1 : F.np = 1) (hR : Rts F) (ht : F.t 0 = t) (hz : (F.s 0).toNat = z)
    (hf : ∀ h, h < (F.rt 0).length → Z.C (lin F 0 h) = fifoC ∧ 1 ≤ Z.c (lin F 0 h) ∧ K h * Z.c (lin F 0 h) < z ∧ z ≤ (K h + 1) * Z.c (lin F 0 h)) :
    ∀ h, h < (F.rt 0).length → dnA t K h + 1 ≤ N → tr F Z N 0 h = dnA t K h := by
  have h0 : 0 < F.np := by omega
  intro h
  induction h using Nat.strongRecOn with
  | ind h ih =>
    intro hh hN
    have hmono : ∀ j k, j ≤ k → dnA t K j ≤ dnA t K k := by
      intro j k
      induction k with
      | zero => intro e; rw [show j = 0 by omega]; exact Nat.le_refl _
      | succ k ihk =>
        intro e
        rcases Nat.lt_or_ge j (k + 1) with e2 | e2
        · have := ihk (by omega)
          simp only [dnA]; omega
        · rw [show j = k + 1 by omega]; exact Nat.le_refl _
    obtain ⟨a, ha, hd⟩ : ∃ a : Nat, arr F (tr F Z N) 0 h = some (a : Int) ∧ dnA t K h = a + K h := by
      cases h with
      | zero => exact ⟨t, by unfold arr; rw [if_pos rfl, ht], rfl⟩
      | succ h =>
        refine ⟨dnA t K h + 1, ?_, rfl⟩
        have hall : ∀ j, j < h + 1 → tr F Z N 0 j = dnA t K j := fun j hj => ih j hj (by omega) (by have := hmono j (h + 1) (by omega); omega)
        unfold arr
        rw [if_neg (by omega), if_pos fun j hj => by rw [hall j hj]; omega]
        rw [show h + 1 - 1 = h by omega, hall h (by omega)]
        rfl
    rw [tr_con hR Z N 0 h h0 hh]
    have hp0 := hp_lin hR h0 hh
    have hq := qu_one h1 hp0 ha
    obtain ⟨f1, f2, f3, f4⟩ := hf h hh
    unfold pas
    rw [hq]
    have hpl : plc [(⟨(a : Int), F.fl 0, 0⟩ : Wt)] 0 = some 0 := rfl
    rw [hpl, f1]
    show (run fifoC [⟨F.cs 0, (a : Int), F.s 0⟩] (Z.c (lin F 0 h)) N).dn 0 = _
    rw [one_done f2 (a := a) (K := K h) (z := z) rfl hz f3 f4 (by omega), hd]
end Go.Mc
end
section
namespace Go.Mc
open Go.Pk Go.Np Go.Cv
/-! the example of the chapter -/
abbrev twL : Ln := ⟨1, 10, 1, [], []⟩
abbrev twF : Fl := ⟨⟨#[102]⟩, [0, 1], 0, 1, 50, [0, 100], 1, 1⟩
def twN : Nt := ⟨[⟨#[97]⟩, ⟨#[98]⟩], [twL, twL], [twF]⟩
abbrev twP : List Pk := [⟨0, 0, 25⟩]
theorem tw_val : ValidP twF.v twF.p twF.q ∧ FinP twF.v := by
  refine ⟨⟨by decide, by decide, by decide, by decide, by decide, by decide, by decide, ?_, ?_, ?_, ?_⟩, by unfold FinP; decide⟩
  · intro j hj
    have : j = 0 ∨ j = 1 := by have : twF.v.length = 2 := rfl; omega
    rcases this with rfl | rfl <;> decide
  · intro j hj
    have : j = 0 := by have : twF.v.length = 2 := rfl; omega
    subst this; decide
  · decide
  · decide
theorem tw_chk : chkN twN = 0 := by
  refine chkN_ok (by decide) rfl ?_ ?_
  · intro j hj
    have h3 : j = 0 ∨ j = 1 := by have : twN.ln.length = 2 := rfl; omega
    have e : twN.nm.getD j bs0 = lname j ∧ twN.ln.getD j ln0 = twL := by rcases h3 with rfl | rfl <;> exact ⟨rfl, rfl⟩
    have hf : nmErr (twN.nm.take j) (twN.nm.getD j bs0) = 0 := by
      rw [e.1]
      refine nm_fresh (lname_word j (by omega)) fun h => ?_
      obtain ⟨k, hk, hk2, e2⟩ := mem_take (d := bs0) h
      have e3 : twN.nm.getD k bs0 = lname k := by rcases (show k = 0 ∨ k = 1 by omega) with rfl | rfl <;> rfl
      rw [e3] at e2
      have := lname_inj j (by omega) k (by omega) e2
      omega
    unfold lineE
    rw [hf, if_neg (by simp), e.2]
    decide +kernel
  · intro j hj
    have : j = 0 := by have : twN.fl.length = 1 := rfl; omega
    subst this
    have hf : nmErr ((twN.fl.take 0).map (·.nm)) (twN.fl.getD 0 fl0).nm = 0 := nm_fresh (fname_word 0 (by decide)) (by simp)
    have hr : routeE twN.ln (twN.fl.getD 0 fl0) = 0 := by decide +kernel
    unfold flowE
    rw [hf, if_neg (by simp), hr, if_neg (by simp)]
    have hG : twN.fl.getD 0 fl0 = twF := rfl
    rw [hG]
    unfold trafE
    rw [if_neg (by decide), if_neg (fun k => k tw_val.1), if_neg (by decide), if_neg (fun k => k tw_val.2)]
theorem tw_sk : SkP twN twP := by
  refine ⟨tw_chk, by decide, fun i hi => ?_, fun i hi => ?_⟩
  · have : i = 0 := by have : twP.length = 1 := rfl; omega
    subst this; decide
  · have : i = 0 := by have : twP.length = 1 := rfl; omega
    subst this; decide
/- the trip of the example -/
theorem tw_tr {Z : Li} (h0 : Z.C 0 = fifoC ∧ Z.c 0 = 10) (h1 : Z.C 1 = fifoC ∧ Z.c 1 = 10) : trR (toF twN twP) Z 100 = [[2, 5]] := by
  have hlen : ((toF twN twP).rt 0).length = 2 := rfl
  have hf : ∀ h, h < ((toF twN twP).rt 0).length → Z.C (lin (toF twN twP) 0 h) = fifoC ∧ 1 ≤ Z.c (lin (toF twN twP) 0 h) ∧ 2 * Z.c (lin (toF twN twP) 0 h) < 25 ∧ 25 ≤ (2 + 1) * Z.c (lin (toF twN twP) 0 h) := by
    intro h hh
    rw [hlen] at hh
    rcases (show h = 0 ∨ h = 1 by omega) with rfl | rfl
    · have e : lin (toF twN twP) 0 0 = 0 := rfl
      rw [e, h0.1, h0.2]; exact ⟨rfl, by omega, by omega, by omega⟩
    · have e : lin (toF twN twP) 0 1 = 1 := rfl
      rw [e, h1.1, h1.2]; exact ⟨rfl, by omega, by omega, by omega⟩
  have key := tr_one (F := toF twN twP) (Z := Z) (N := 100) (t := 0) (z := 25) (K := fun _ => 2) rfl tw_sk.rts rfl rfl hf
  have e0 := key 0 (by rw [hlen]; omega) (by decide)
  have e1 := key 1 (by rw [hlen]; omega) (by decide)
  have : trR (toF twN twP) Z 100 = [[tr (toF twN twP) Z 100 0 0, tr (toF twN twP) Z 100 0 1]] := rfl
  rw [this, e0, e1]; rfl
theorem tw_qu : quL twN twP (dR [[2, 5]]) 1 twP.length = [⟨3, 0, 0⟩] := by
  rw [show (1 : Int) = ((1 : Nat) : Int) from rfl, quL_nat]
  have h1 : hp (toF twN twP) 1 0 = some 1 := by decide
  refine qu_one (F := toF twN twP) rfl (h := 1) h1 ?_
  unfold arr
  rw [if_neg (by omega), if_pos]
  · rfl
  · intro j hj
    have : j = 0 := by omega
    subst this; decide
theorem tw_arr : arO twN twP (dR [[2, 5]]) 0 1 = some 3 := by
  have h : hps twN twP 0 = 2 := by decide
  rw [arO_pos (by rw [h]; omega) (by omega), if_pos]
  · rfl
  · intro j hj
    have : j = 0 := by have : (1 : Int).toNat = 1 := rfl; omega
    subst this; decide
end Go.Mc
end
section
namespace Go.Proofs.YtaomhdljcdadaaaGreat
open Go.Sx Go.Np
set_option maxRecDepth 4000
set_option maxHeartbeats 2000000
theorem aP_Ri {A B K : Prop} (k : K) (a : A := by (simp only [zA, zT, zD, zC, zN, ints_len, zR, Go.Cv.vals_len]; omega)) (b : B := by (simp only [zA, zT, zD, zC, zN, ints_len, zR, Go.Cv.vals_len]; omega)) : (A ∧ B) ∧ K := ⟨⟨a, b⟩, k⟩
theorem rInts_ok (a b : List Int) (ha : a.length ≤ 9223372036854775807) : Ctr Tryz.prog 88 [.psl 1 (ints a), .psl 1 (ints b)] [] (fun r o => o = [] ∧ r = .bp (a = b)) := by
  refine Ctr.imp ?_
  refine fn_intro (E := env 0) tys_ok rfl rfl rfl Tryz.func88 (by kernel_rfl) rfl (by kernel_rfl) ?_
  have hla := ints_len a
  have hlb := ints_len b
  (repeat' (conv => whnf); first | (refine aC (fun _ => ?_) (fun _ => ?_) <;> try (exfalso; omega)) | refine aS ?_ | refine aG ?_ | refine aD ?_ | refine aH ?_ | refine aP_Ri ?_ | refine aI ?_ | refine aJ ?_ | refine aW (.qs [0, 1, 2, 3, 4, 5, 6, 7, 8] .nil) ?_ | fail); all_goals try (conv => whnf)
  · exact ⟨rfl, Imp.bl ⟨fun h => (by cases h), fun h => by subst h; omega⟩⟩
  have hab : a.length = b.length := by omega
  refine LoopOb.mk (Y := Nat) (st := fun i => ⟨[(5, i64 i), (1, .psl 1 (ints b)), (0, .psl 1 (ints a))], []⟩)
    (inv := fun i => i ≤ a.length ∧ ∀ j < i, a.getD j 0 = b.getD j 0) (fun i => a.length - i) 0 [] ⟨by omega, by omega⟩ (by (exact aL)) ?_
  rintro i ⟨hi, hv⟩
  (repeat' (conv => whnf); first | refine aS ?_ | refine aG ?_ | refine aD ?_ | refine aH ?_ | refine aP_Ri ?_ | refine aI ?_ | refine aJ ?_ | refine aW (.qs [0, 1, 2, 3, 4, 5, 6, 7, 8] .nil) ?_ | fail); all_goals try (conv => whnf)
  refine CondOb.mk (fun hlt => ?_) (fun hlt => ?_)
  · have hst : a.getD i 0 = b.getD i 0 → ∀ j < i + 1, a.getD j 0 = b.getD j 0 := fun h j hj => by
      by_cases e : j = i
      · rw [e]; exact h
      · exact hv j (by omega)
    (repeat' (conv => whnf); first | (refine aC (fun _ => ?_) (fun _ => ?_) <;> try (exfalso; omega)) | refine aS ?_ | refine aG ?_ | refine aD ?_ | refine aH ?_ | refine aP_Ri ?_ | refine aI ?_ | refine aJ ?_ | refine aW (.qs [0, 1, 2, 3, 4, 5, 6, 7, 8] .nil) ?_ | fail); all_goals try (conv => whnf)
    · exact ⟨rfl, Imp.bl ⟨fun h => (by cases h), fun h => by subst h; exact absurd rfl (by assumption)⟩⟩
    · exact ⟨i + 1, [], ⟨by omega, hst (by omega)⟩, by omega, by (exact aL)⟩
  · (repeat' (conv => whnf); first | refine aC (fun _ => ?_) (fun _ => ?_) | refine aS ?_ | refine aG ?_ | refine aD ?_ | refine aH ?_ | refine aP_Ri ?_ | refine aI ?_ | refine aJ ?_ | refine aW (.qs [0, 1, 2, 3, 4, 5, 6, 7, 8] .nil) ?_ | fail); all_goals try (conv => whnf)
    refine ⟨rfl, Imp.bl ⟨fun _ => ?_, fun _ => rfl⟩⟩
    apply List.ext_getElem hab
    intro j h1 h2
    have := hv j (by omega)
    rw [List.getD_eq_getElem?_getD, List.getD_eq_getElem?_getD, List.getElem?_eq_getElem h1, List.getElem?_eq_getElem h2, Option.getD_some, Option.getD_some] at this
    exact this
end Go.Proofs.YtaomhdljcdadaaaGreat
end
section
namespace Go.Proofs.YtaomhdljcdadaaaGreat
open Go.Sx Go.Pk Go.Mc Go.Np
set_option maxRecDepth 4000
set_option maxHeartbeats 2000000
/-! the example of the chapter -/
theorem tw_nl : NL twN := by
  refine ⟨by decide, by decide, by decide, fun s hs => ?_, fun l hl => ?_, fun f hf => ?_⟩
  · simp only [twN, List.mem_cons, List.not_mem_nil, or_false] at hs
    rcases hs with rfl | rfl <;> decide
  · simp only [twN, List.mem_cons, List.not_mem_nil, or_false] at hl
    rcases hl with rfl | rfl <;> decide
  · simp only [twN, List.mem_cons, List.not_mem_nil, or_false] at hf
    subst hf; decide
abbrev twv0 : List SV := [i64 1, i64 10, i64 1, .nil, .nil]
abbrev twv : List SV := [.str ⟨#[102]⟩, .ful 1 [[i64 0], [i64 1]], i64 0, i64 1, i64 50, .psl 1 (ints (stv 100 1)), i64 1, i64 1]
theorem aP_So9 {A B K : Prop} (k : K) (a : A := by (simp only [zA, zT, zD, zC, zN, ints_len, zR, Go.Cv.vals_len]; omega)) (b : B := by (simp only [zA, zT, zD, zC, zN, ints_len, zR, Go.Cv.vals_len]; omega)) : (A ∧ B) ∧ K := ⟨⟨a, b⟩, k⟩
theorem two_ok : Ctr Tryz.prog 84 [] [] (fun r o => o = [] ∧ r = ntv twN) := by
  refine Ctr.imp ?_
  refine fn_intro (E := env 0) tys_ok rfl rfl rfl Tryz.func84 (by kernel_rfl) rfl (by kernel_rfl) ?_
  have cS := Stair_ok 100 1 1 (by decide)
  (repeat' (conv => whnf); first | (refine aC (fun _ => ?_) (fun _ => ?_) <;> try (exfalso; omega)) | refine aS ?_ | refine aG ?_ | refine aD ?_ | refine aH ?_ | refine aP_So9 ?_ | refine aI ?_ | refine aJ ?_ | fail); all_goals try (conv => whnf)
  refine DrawOb.cut [] (.qs [1, 2, 5] (.l 0 [2, 1] (.l 3 [] (.l 4 [] (.l 6 [] (.qs [7] (.l 8 [] (.qs [9] (.l 10 [] .nil .no)) .no)) .no) (.l 6 [] (.l 4 [] (.qs [7] (.l 8 [] (.qs [9] (.l 10 [] .nil .no)) .no)) .no) .no)) (.l 4 [2, 1] (.l 3 [] (.l 6 [] (.qs [7] (.l 8 [] (.qs [9] (.l 10 [] .nil .no)) .no)) .no) (.l 6 [2, 1] (.qs [7] (.l 3 [] (.l 8 [] (.qs [9] (.l 10 [] .nil .no)) .no) (.l 8 [2, 1] (.l 3 [] (.qs [9] (.l 10 [] .nil .no)) .no) .no))) .no)) (.l 6 [2, 1] (.l 3 [] (.l 4 [] (.qs [7] (.l 8 [] (.qs [9] (.l 10 [] .nil .no)) .no)) .no) (.l 4 [2, 1] (.qs [7] (.l 3 [] (.l 8 [] (.qs [9] (.l 10 [] .nil .no)) .no) (.l 8 [2, 1] (.l 3 [] (.qs [9] (.l 10 [] .nil .no)) .no) .no))) .no)) .no))) (.l 3 [] (.l 0 [] (.l 4 [] (.l 6 [] (.qs [7] (.l 8 [] (.qs [9] (.l 10 [] .nil .no)) .no)) .no) (.l 6 [] (.l 4 [] (.qs [7] (.l 8 [] (.qs [9] (.l 10 [] .nil .no)) .no)) .no) .no)) (.l 4 [] (.l 0 [] (.l 6 [] (.qs [7] (.l 8 [] (.qs [9] (.l 10 [] .nil .no)) .no)) .no) (.l 6 [] (.qs [7] (.l 0 [] (.l 8 [] (.qs [9] (.l 10 [] .nil .no)) .no) (.l 8 [] (.l 0 [] (.qs [9] (.l 10 [] .nil .no)) .no) .no))) .no)) (.l 6 [] (.l 0 [] (.l 4 [] (.qs [7] (.l 8 [] (.qs [9] (.l 10 [] .nil .no)) .no)) .no) (.l 4 [] (.qs [7] (.l 0 [] (.l 8 [] (.qs [9] (.l 10 [] .nil .no)) .no) (.l 8 [] (.l 0 [] (.qs [9] (.l 10 [] .nil .no)) .no) .no))) .no)) .no))) (.l 4 [2, 1] (.l 0 [2, 1] (.l 3 [] (.l 6 [] (.qs [7] (.l 8 [] (.qs [9] (.l 10 [] .nil .no)) .no)) .no) (.l 6 [2, 1] (.qs [7] (.l 3 [] (.l 8 [] (.qs [9] (.l 10 [] .nil .no)) .no) (.l 8 [2, 1] (.l 3 [] (.qs [9] (.l 10 [] .nil .no)) .no) .no))) .no)) (.l 3 [] (.l 0 [] (.l 6 [] (.qs [7] (.l 8 [] (.qs [9] (.l 10 [] .nil .no)) .no)) .no) (.l 6 [] (.qs [7] (.l 0 [] (.l 8 [] (.qs [9] (.l 10 [] .nil .no)) .no) (.l 8 [] (.l 0 [] (.qs [9] (.l 10 [] .nil .no)) .no) .no))) .no)) (.l 6 [2, 1] (.qs [7] (.l 0 [2, 1] (.l 3 [] (.l 8 [] (.qs [9] (.l 10 [] .nil .no)) .no) (.l 8 [2, 1] (.l 3 [] (.qs [9] (.l 10 [] .nil .no)) .no) .no)) (.l 3 [] (.l 0 [] (.l 8 [] (.qs [9] (.l 10 [] .nil .no)) .no) (.l 8 [] (.l 0 [] (.qs [9] (.l 10 [] .nil .no)) .no) .no)) (.l 8 [2, 1] (.l 0 [2, 1] (.l 3 [] (.qs [9] (.l 10 [] .nil .no)) .no) (.l 3 [] (.l 0 [] (.qs [9] (.l 10 [] .nil .no)) .no) .no)) .no)))) .no))) (.l 6 [2, 1] (.l 0 [2, 1] (.l 3 [] (.l 4 [] (.qs [7] (.l 8 [] (.qs [9] (.l 10 [] .nil .no)) .no)) .no) (.l 4 [2, 1] (.qs [7] (.l 3 [] (.l 8 [] (.qs [9] (.l 10 [] .nil .no)) .no) (.l 8 [2, 1] (.l 3 [] (.qs [9] (.l 10 [] .nil .no)) .no) .no))) .no)) (.l 3 [] (.l 0 [] (.l 4 [] (.qs [7] (.l 8 [] (.qs [9] (.l 10 [] .nil .no)) .no)) .no) (.l 4 [] (.qs [7] (.l 0 [] (.l 8 [] (.qs [9] (.l 10 [] .nil .no)) .no) (.l 8 [] (.l 0 [] (.qs [9] (.l 10 [] .nil .no)) .no) .no))) .no)) (.l 4 [2, 1] (.qs [7] (.l 0 [2, 1] (.l 3 [] (.l 8 [] (.qs [9] (.l 10 [] .nil .no)) .no) (.l 8 [2, 1] (.l 3 [] (.qs [9] (.l 10 [] .nil .no)) .no) .no)) (.l 3 [] (.l 0 [] (.l 8 [] (.qs [9] (.l 10 [] .nil .no)) .no) (.l 8 [] (.l 0 [] (.qs [9] (.l 10 [] .nil .no)) .no) .no)) (.l 8 [2, 1] (.l 0 [2, 1] (.l 3 [] (.qs [9] (.l 10 [] .nil .no)) .no) (.l 3 [] (.l 0 [] (.qs [9] (.l 10 [] .nil .no)) .no) .no)) .no)))) .no))) .no))))) (Y := Unit) (st := fun _ => ⟨[(0, .ptr 0 0)], [.box [.ful 1 [[.str ⟨#[97]⟩], [.str ⟨#[98]⟩]], .ful 5 [twv0, twv0], .ful 8 [twv]]]⟩) (inv := fun _ => True) (by decide +kernel) ?_ ?_
  · (repeat' (conv => whnf); first | refine LitOb.ful ?_ | (refine aC (fun _ => ?_) (fun _ => ?_) <;> try (exfalso; omega)) | refine aS ?_ | refine aG ?_ | refine aD ?_ | refine aH ?_ | refine aP_So9 ?_ | refine aI ?_ | refine aJ ?_ | refine aW (.qs [1, 2, 5] (.l 0 [2, 1] (.l 3 [] (.l 4 [] (.l 6 [] (.qs [7] (.l 8 [] (.qs [9] (.l 10 [] .nil .no)) .no)) .no) (.l 6 [] (.l 4 [] (.qs [7] (.l 8 [] (.qs [9] (.l 10 [] .nil .no)) .no)) .no) .no)) (.l 4 [2, 1] (.l 3 [] (.l 6 [] (.qs [7] (.l 8 [] (.qs [9] (.l 10 [] .nil .no)) .no)) .no) (.l 6 [2, 1] (.qs [7] (.l 3 [] (.l 8 [] (.qs [9] (.l 10 [] .nil .no)) .no) (.l 8 [2, 1] (.l 3 [] (.qs [9] (.l 10 [] .nil .no)) .no) .no))) .no)) (.l 6 [2, 1] (.l 3 [] (.l 4 [] (.qs [7] (.l 8 [] (.qs [9] (.l 10 [] .nil .no)) .no)) .no) (.l 4 [2, 1] (.qs [7] (.l 3 [] (.l 8 [] (.qs [9] (.l 10 [] .nil .no)) .no) (.l 8 [2, 1] (.l 3 [] (.qs [9] (.l 10 [] .nil .no)) .no) .no))) .no)) .no))) (.l 3 [] (.l 0 [] (.l 4 [] (.l 6 [] (.qs [7] (.l 8 [] (.qs [9] (.l 10 [] .nil .no)) .no)) .no) (.l 6 [] (.l 4 [] (.qs [7] (.l 8 [] (.qs [9] (.l 10 [] .nil .no)) .no)) .no) .no)) (.l 4 [] (.l 0 [] (.l 6 [] (.qs [7] (.l 8 [] (.qs [9] (.l 10 [] .nil .no)) .no)) .no) (.l 6 [] (.qs [7] (.l 0 [] (.l 8 [] (.qs [9] (.l 10 [] .nil .no)) .no) (.l 8 [] (.l 0 [] (.qs [9] (.l 10 [] .nil .no)) .no) .no))) .no)) (.l 6 [] (.l 0 [] (.l 4 [] (.qs [7] (.l 8 [] (.qs [9] (.l 10 [] .nil .no)) .no)) .no) (.l 4 [] (.qs [7] (.l 0 [] (.l 8 [] (.qs [9] (.l 10 [] .nil .no)) .no) (.l 8 [] (.l 0 [] (.qs [9] (.l 10 [] .nil .no)) .no) .no))) .no)) .no))) (.l 4 [2, 1] (.l 0 [2, 1] (.l 3 [] (.l 6 [] (.qs [7] (.l 8 [] (.qs [9] (.l 10 [] .nil .no)) .no)) .no) (.l 6 [2, 1] (.qs [7] (.l 3 [] (.l 8 [] (.qs [9] (.l 10 [] .nil .no)) .no) (.l 8 [2, 1] (.l 3 [] (.qs [9] (.l 10 [] .nil .no)) .no) .no))) .no)) (.l 3 [] (.l 0 [] (.l 6 [] (.qs [7] (.l 8 [] (.qs [9] (.l 10 [] .nil .no)) .no)) .no) (.l 6 [] (.qs [7] (.l 0 [] (.l 8 [] (.qs [9] (.l 10 [] .nil .no)) .no) (.l 8 [] (.l 0 [] (.qs [9] (.l 10 [] .nil .no)) .no) .no))) .no)) (.l 6 [2, 1] (.qs [7] (.l 0 [2, 1] (.l 3 [] (.l 8 [] (.qs [9] (.l 10 [] .nil .no)) .no) (.l 8 [2, 1] (.l 3 [] (.qs [9] (.l 10 [] .nil .no)) .no) .no)) (.l 3 [] (.l 0 [] (.l 8 [] (.qs [9] (.l 10 [] .nil .no)) .no) (.l 8 [] (.l 0 [] (.qs [9] (.l 10 [] .nil .no)) .no) .no)) (.l 8 [2, 1] (.l 0 [2, 1] (.l 3 [] (.qs [9] (.l 10 [] .nil .no)) .no) (.l 3 [] (.l 0 [] (.qs [9] (.l 10 [] .nil .no)) .no) .no)) .no)))) .no))) (.l 6 [2, 1] (.l 0 [2, 1] (.l 3 [] (.l 4 [] (.qs [7] (.l 8 [] (.qs [9] (.l 10 [] .nil .no)) .no)) .no) (.l 4 [2, 1] (.qs [7] (.l 3 [] (.l 8 [] (.qs [9] (.l 10 [] .nil .no)) .no) (.l 8 [2, 1] (.l 3 [] (.qs [9] (.l 10 [] .nil .no)) .no) .no))) .no)) (.l 3 [] (.l 0 [] (.l 4 [] (.qs [7] (.l 8 [] (.qs [9] (.l 10 [] .nil .no)) .no)) .no) (.l 4 [] (.qs [7] (.l 0 [] (.l 8 [] (.qs [9] (.l 10 [] .nil .no)) .no) (.l 8 [] (.l 0 [] (.qs [9] (.l 10 [] .nil .no)) .no) .no))) .no)) (.l 4 [2, 1] (.qs [7] (.l 0 [2, 1] (.l 3 [] (.l 8 [] (.qs [9] (.l 10 [] .nil .no)) .no) (.l 8 [2, 1] (.l 3 [] (.qs [9] (.l 10 [] .nil .no)) .no) .no)) (.l 3 [] (.l 0 [] (.l 8 [] (.qs [9] (.l 10 [] .nil .no)) .no) (.l 8 [] (.l 0 [] (.qs [9] (.l 10 [] .nil .no)) .no) .no)) (.l 8 [2, 1] (.l 0 [2, 1] (.l 3 [] (.qs [9] (.l 10 [] .nil .no)) .no) (.l 3 [] (.l 0 [] (.qs [9] (.l 10 [] .nil .no)) .no) .no)) .no)))) .no))) .no))))) ?_ | (refine aK [] cS ?_) | refine And.intro ?_ ?_ | fail); all_goals try (conv => whnf)
    all_goals exact ⟨(), [0], trivial, by (exact aL)⟩
  rintro _ _
  (repeat' (conv => whnf); first | (refine aC (fun _ => ?_) (fun _ => ?_) <;> try (exfalso; omega)) | refine aS ?_ | refine aG ?_ | refine aD ?_ | refine aH ?_ | refine aP_So9 ?_ | refine aI ?_ | refine aJ ?_ | fail); all_goals try (conv => whnf)
  have h0 : ImpL twv0 (lnv twL) := ⟨Imp.refl _, Imp.refl _, Imp.refl _, Imp.nil _, Imp.nil _, trivial⟩
  have h1 : ImpL twv (flv twF) := ⟨Imp.refl _, Imp.fulp rfl, Imp.refl _, Imp.refl _, Imp.refl _, Imp.refl _, Imp.refl _, Imp.refl _, trivial⟩
  exact ⟨rfl, Imp.agg ⟨Imp.fulp rfl, Imp.fulr ⟨h0, h0, trivial⟩, Imp.fulr ⟨h1, trivial⟩, trivial⟩⟩

theorem rSame_ok (ms ms' : List (List Int)) (hm : MsL ms) (hm' : MsL ms') : Ctr Tryz.prog 44 [.agg [.psl 1 (trs ms)], .agg [.psl 1 (trs ms')]] [] (fun r o => o = [] ∧ ∃ b : Bool, (b = true ↔ ms = ms') ∧ r = .bl b) := by
  refine fn_intro (E := env 0) tys_ok rfl rfl rfl Tryz.func44 (by kernel_rfl) rfl (by kernel_rfl) ?_
  have htl := trs_len ms
  have htl' := trs_len ms'
  have hl := hm.l
  have hl' := hm'.l
  by_cases hne : ms.length = ms'.length
  · (repeat' (conv => whnf); first | (refine aC (fun _ => ?_) (fun _ => ?_) <;> try (exfalso; omega)) | refine aS ?_ | refine aG ?_ | refine aD ?_ | refine aH ?_ | refine aP_So9 ?_ | refine aI ?_ | refine aJ ?_ | refine aW (.qs [0, 1, 2, 3, 4, 5, 6, 7, 8, 9] (.l 10 [] (.qs [11] .nil) .no)) ?_ | fail); all_goals try (conv => whnf)
    refine LoopOb.mk (Y := Nat) (st := fun i => ⟨[(5, i64 i), (3, .ptr 1 0), (2, .ptr 0 0)], [.box [.psl 1 (trs ms)], .box [.psl 1 (trs ms')]]⟩)
      (inv := fun i => i ≤ ms.length ∧ ∀ j, j < i → ms.getD j [] = ms'.getD j []) (fun i => ms.length - i) 0 [0, 1] ⟨by omega, fun j hj => by omega⟩ (by (exact aL)) ?_
    rintro i ⟨hi, hc⟩
    by_cases hil : i < ms.length
    · have g1 := trs_get (ms := ms) hil
      have g2 := trs_get (ms := ms') (i := i) (by omega)
      have r1 := hm.r i
      have hst : ms.getD i [] = ms'.getD i [] → ∀ j, j < i + 1 → ms.getD j [] = ms'.getD j [] := fun e j hj => by
        rcases Nat.lt_succ_iff_lt_or_eq.1 hj with h | h
        · exact hc j h
        · subst h; exact e
      have hno : ms.getD i [] ≠ ms'.getD i [] → ms ≠ ms' := fun h e => h (by rw [e])
      have hI := rInts_ok (ms.getD i []) (ms'.getD i []) r1
      generalize ms.getD i [] = a at *
      generalize ms'.getD i [] = b at *
      (repeat' (conv => whnf); first | refine ⟨i, _, rfl, g2, ?_⟩ | refine ⟨i, _, rfl, g1, ?_⟩ | (refine aC (fun _ => ?_) (fun _ => ?_) <;> try (exfalso; omega)) | refine aS ?_ | refine aG ?_ | refine aD ?_ | refine aH ?_ | refine aP_So9 ?_ | refine aI ?_ | refine aJ ?_ | refine aW (.qs [0, 1, 2, 3, 4, 5, 6, 7, 8, 9] (.l 10 [] (.qs [11] .nil) .no)) ?_ | (refine aK [] (hI) ?_) | fail); all_goals try (conv => whnf)
      all_goals first
        | exact ⟨rfl, false, ⟨fun e => (by cases e), fun e => absurd e (hno (by assumption))⟩, rfl⟩
        | exact ⟨i + 1, [0, 1], ⟨by omega, hst (by assumption)⟩, by omega, by (exact aL)⟩
        | exact ⟨i + 1, [0, 1], ⟨by omega, hst (Classical.not_not.1 (by assumption))⟩, by omega, by (exact aL)⟩
    · obtain rfl : i = ms.length := by omega
      have he : ms = ms' := List.ext_getElem hne fun j h1 h2 => by
        have := hc j h1
        rw [List.getD_eq_getElem?_getD, List.getElem?_eq_getElem h1, List.getD_eq_getElem?_getD, List.getElem?_eq_getElem h2] at this
        exact this
      (repeat' (conv => whnf); first | (refine aC (fun _ => ?_) (fun _ => ?_) <;> try (exfalso; omega)) | refine aS ?_ | refine aG ?_ | refine aD ?_ | refine aH ?_ | refine aP_So9 ?_ | refine aI ?_ | refine aJ ?_ | refine aW (.qs [0, 1, 2, 3, 4, 5, 6, 7, 8, 9] (.l 10 [] (.qs [11] .nil) .no)) ?_ | fail); all_goals try (conv => whnf)
      exact ⟨rfl, true, ⟨fun _ => he, fun _ => rfl⟩, rfl⟩
  · (repeat' (conv => whnf); first | (refine aC (fun _ => ?_) (fun _ => ?_) <;> try (exfalso; omega)) | refine aS ?_ | refine aG ?_ | refine aD ?_ | refine aH ?_ | refine aP_So9 ?_ | refine aI ?_ | refine aJ ?_ | refine aW (.qs [0, 1, 2, 3, 4, 5, 6, 7, 8, 9] (.l 10 [] (.qs [11] .nil) .no)) ?_ | fail); all_goals try (conv => whnf)
    exact ⟨rfl, false, ⟨fun e => (by cases e), fun e => absurd (congrArg List.length e) hne⟩, rfl⟩
end Go.Proofs.YtaomhdljcdadaaaGreat
end
