/-
  A text of the proofs of this seat: lemmas that the statements' proofs use; it states nothing of the program by itself beyond the contracts that its theorems bear. Conditions: those that stand in each theorem. Its short name: Mf Mu Mv Ri.
-/
import Derived.Test.YtaomhdljcdadaaaGreatMp
import Derived.Test.YtaomhdljcdadaaaGreatMtt
import Derived.Test.YtaomhdljcdadaaaGreatN6
set_option linter.unusedVariables false
set_option linter.unusedSimpArgs false
section
namespace Go.Mc
open Go.Pk Go.Np
/-! one packet alone -/
variable {x : Pk} {c : Nat}
theorem asc_one : Asc [x] := fun i j hij hj => by
  have : j < 1 := hj
  have e1 : j = 0 := by omega
  have e2 : i = 0 := by omega
  subst e1 e2; exact Int.le_refl _
theorem one_step {t : Nat} {S : St fifoC.σ} (hS : InvT [x] t S) {r : Nat} (hc : S.cur = some (0, r)) (h1 : 1 ≤ r) (hc1 : 1 ≤ c) :
    (r ≤ c → (tk fifoC [x] t c S).dn 0 = t) ∧ (c < r → (tk fifoC [x] t c S).cur = some (0, r - c) ∧ (tk fifoC [x] t c S).dn = S.dn) := by
  constructor
  · intro h
    rw [tk_some hc h1 h]
    have h2 := (tk_inv asc_one (c - r) (fi_inv asc_one hS hc)).2 0
    have e : (S.fi 0 t).dn 0 = t := by show upd S.dn 0 (t : Int) 0 = _; exact upd_same
    rcases h2 with h2 | h2
    · rw [h2, e]
    · rw [e] at h2; omega
  · intro h
    rw [tk_more hc hc1 h, tk]
    exact ⟨rfl, rfl⟩
theorem one_go (hc1 : 1 ≤ c) : ∀ (k t r : Nat), (run fifoC [x] c t).cur = some (0, r) → k * c < r → r ≤ (k + 1) * c → (run fifoC [x] c (t + k + 1)).dn 0 = (t + k : Nat)
  | 0, t, r, hc, h1, h2 => by
    rw [Nat.zero_add, Nat.one_mul] at h2
    exact (one_step (run_inv asc_one t).inT hc (by omega) hc1).1 h2
  | k + 1, t, r, hc, h1, h2 => by
    have hm : (k + 1) * c = k * c + c := Nat.succ_mul k c
    have hm2 : (k + 1 + 1) * c = (k + 1) * c + c := Nat.succ_mul (k + 1) c
    have := (one_step (run_inv asc_one t).inT hc (by omega) hc1).2 (by omega)
    have hg := one_go hc1 k (t + 1) (r - c) this.1 (by omega) (by omega)
    rw [show t + 1 + k + 1 = t + (k + 1) + 1 by omega, show t + 1 + k = t + (k + 1) by omega] at hg
    exact hg
theorem one_rest (hc1 : 1 ≤ c) : ∀ t : Nat, (t : Int) ≤ x.t → run fifoC [x] c t = ⟨(), none, fun _ => false, fun _ => -1⟩
  | 0, _ => rfl
  | t + 1, h => by
    have ih := one_rest hc1 t (by omega)
    show tk fifoC [x] t c (run fifoC [x] c t) = _
    rw [ih, tk_non rfl ?_ hc1]
    · rfl
    · show fst _ _ = none
      refine fst_none.2 fun j hj => ?_
      have : j < 1 := hj
      have e : j = 0 := by omega
      subst e
      cases hw : wt [x] t (fun _ => false) 0 with
      | false => rfl
      | true =>
        have := (wt_iff.1 hw).2.1
        unfold tm at this
        have e : ([x].getD 0 pk0).t = x.t := rfl
        omega
/- a packet alone needs its size by the capacity, rounded up -/
theorem one_done (hc1 : 1 ≤ c) {a K z N : Nat} (ha : x.t = a) (hz : x.s.toNat = z) (h1 : K * c < z) (h2 : z ≤ (K + 1) * c) (hN : a + K + 1 ≤ N) : (run fifoC [x] c N).dn 0 = (a + K : Nat) := by
  have key : (run fifoC [x] c (a + K + 1)).dn 0 = (a + K : Nat) := by
    have h0 := one_rest (x := x) hc1 a (by omega)
    have hk : (fifoC.ch [x] a c (wt [x] a fun _ => false) ()).2 = some 0 := by
      show fst _ _ = some 0
      refine fst_some.2 ⟨by simp, wt_iff.2 ⟨by simp, ?_, rfl⟩, fun j hj => by omega⟩
      show x.t ≤ (a : Int); omega
    have e1 : run fifoC [x] c (a + 1) = tk fifoC [x] a c ⟨(), some (0, z), upd (fun _ => false) 0 true, fun _ => -1⟩ := by
      show tk fifoC [x] a c (run fifoC [x] c a) = _
      rw [h0, tk_new rfl hk hc1]
      congr 2
      show some (0, sz [x] 0) = _
      unfold sz
      rw [show ([x].getD 0 pk0) = x from rfl, hz]
    have hI := new_inv (C := fifoC) (left := c) asc_one (run_inv (C := fifoC) (p := [x]) (c := c) asc_one a).inT (i := 0) (by rw [h0]) (by rw [h0]; exact hk)
    have hz1 : sz [x] 0 = z := by unfold sz; rw [show ([x].getD 0 pk0) = x from rfl, hz]
    rw [hz1, h0] at hI
    have hs := one_step (c := c) hI rfl (show 1 ≤ z by omega) hc1
    cases K with
    | zero =>
      rw [Nat.zero_add, Nat.one_mul] at h2
      have := hs.1 h2
      rw [show a + 0 + 1 = a + 1 by omega, e1]
      exact this
    | succ K =>
      have hm : (K + 1) * c = K * c + c := Nat.succ_mul K c
      have hm2 : (K + 1 + 1) * c = (K + 1) * c + c := Nat.succ_mul (K + 1) c
      have hcz : c < z := by
        have := Nat.zero_le (K * c); omega
      have := (hs.2 hcz).1
      have e2 : (run fifoC [x] c (a + 1)).cur = some (0, z - c) := by rw [e1]; exact this
      have hg := one_go hc1 K (a + 1) (z - c) e2 (by omega) (by omega)
      rw [show a + 1 + K + 1 = a + (K + 1) + 1 by omega, show a + 1 + K = a + (K + 1) by omega] at hg
      exact hg
  obtain ⟨k, rfl⟩ : ∃ k, N = a + K + 1 + k := ⟨N - (a + K + 1), by omega⟩
  rcases run_le asc_one (C := fifoC) (c := c) (t := a + K + 1) k 0 with h | ⟨h, _⟩
  · rw [h, key]
  · rw [key] at h; omega
end Go.Mc
end
section
namespace Go.Mc
open Go.Pk Go.Np
/-! one packet alone in a network -/
/- when it is done at each hop -/
def dnA (t : Nat) (K : Nat → Nat) : Nat → Nat
  | 0 => t + K 0
  | h + 1 => dnA t K h + 1 + K (h + 1)
theorem qu_one {F : Tf} (h1 : F.np = 1) {D : Tp} {l h : Nat} {a : Int} (hh : hp F l 0 = some h) (ha : arr F D 0 h = some a) : qu F D l = [⟨a, F.fl 0, 0⟩] := by
  refine (qu_ok F D l).uniq ⟨List.pairwise_singleton _ _, fun y => ?_⟩
  rw [List.mem_singleton]
  constructor
  · rintro rfl
    exact ⟨by rw [h1]; exact Nat.one_pos, ⟨h, hh, ha⟩, rfl⟩
  · rintro ⟨e1, ⟨k, e2, e3⟩, e4⟩
    have e0 : y.i = 0 := by omega
    rw [e0] at e2 e3 e4
    have ek : h = k := by rw [hh] at e2; exact Option.some.inj e2
    subst ek
    refine Wt.ext' ?_ e4 e0
    rw [ha] at e3; exact (Option.some.inj e3).symm
theorem tr_one {F : Tf} {Z : Li} {N t z : Nat} {K : Nat → Nat} (h1 : F.np = 1) (hR : Rts F) (ht : F.t 0 = t) (hz : (F.s 0).toNat = z)
    (hf : ∀ h, h < (F.rt 0).length → Z.C (lin F 0 h) = fifoC ∧ 1 ≤ Z.c (lin F 0 h) ∧ K h * Z.c (lin F 0 h) < z ∧ z ≤ (K h + 1) * Z.c (lin F 0 h)) :
    ∀ h, h < (F.rt 0).length → dnA t K h + 1 ≤ N → tr F Z N 0 h = dnA t K h := by
  have h0 : 0 < F.np := by omega
  intro h
  induction h using Nat.strongRecOn with
  | ind h ih =>
    intro hh hN
    have hmono : ∀ j k, j ≤ k → dnA t K j ≤ dnA t K k := by
      intro j k
      induction k with
      | zero => intro e; rw [show j = 0 by omega]; exact Nat.le_refl _
      | succ k ihk =>
        intro e
        rcases Nat.lt_or_ge j (k + 1) with e2 | e2
        · have := ihk (by omega)
          simp only [dnA]; omega
        · rw [show j = k + 1 by omega]; exact Nat.le_refl _
    obtain ⟨a, ha, hd⟩ : ∃ a : Nat, arr F (tr F Z N) 0 h = some (a : Int) ∧ dnA t K h = a + K h := by
      cases h with
      | zero => exact ⟨t, by unfold arr; rw [if_pos rfl, ht], rfl⟩
      | succ h =>
        refine ⟨dnA t K h + 1, ?_, rfl⟩
        have hall : ∀ j, j < h + 1 → tr F Z N 0 j = dnA t K j := fun j hj => ih j hj (by omega) (by have := hmono j (h + 1) (by omega); omega)
        unfold arr
        rw [if_neg (by omega), if_pos fun j hj => by rw [hall j hj]; omega]
        rw [show h + 1 - 1 = h by omega, hall h (by omega)]
        rfl
    rw [tr_con hR Z N 0 h h0 hh]
    have hp0 := hp_lin hR h0 hh
    have hq := qu_one h1 hp0 ha
    obtain ⟨f1, f2, f3, f4⟩ := hf h hh
    unfold pas
    rw [hq]
    have hpl : plc [(⟨(a : Int), F.fl 0, 0⟩ : Wt)] 0 = some 0 := rfl
    rw [hpl, f1]
    show (run fifoC [⟨F.cs 0, (a : Int), F.s 0⟩] (Z.c (lin F 0 h)) N).dn 0 = _
    rw [one_done f2 (a := a) (K := K h) (z := z) rfl hz f3 f4 (by omega), hd]
end Go.Mc
end
section
namespace Go.Mc
open Go.Pk Go.Np Go.Cv
/-! the example of the chapter -/
abbrev twL : Ln := ⟨1, 10, 1, [], []⟩
abbrev twF : Fl := ⟨⟨#[102]⟩, [0, 1], 0, 1, 50, [0, 100], 1, 1⟩
def twN : Nt := ⟨[⟨#[97]⟩, ⟨#[98]⟩], [twL, twL], [twF]⟩
abbrev twP : List Pk := [⟨0, 0, 25⟩]
theorem tw_val : ValidP twF.v twF.p twF.q ∧ FinP twF.v := by
  refine ⟨⟨by decide, by decide, by decide, by decide, by decide, by decide, by decide, ?_, ?_, ?_, ?_⟩, by unfold FinP; decide⟩
  · intro j hj
    have : j = 0 ∨ j = 1 := by have : twF.v.length = 2 := rfl; omega
    rcases this with rfl | rfl <;> decide
  · intro j hj
    have : j = 0 := by have : twF.v.length = 2 := rfl; omega
    subst this; decide
  · decide
  · decide
theorem tw_chk : chkN twN = 0 := by
  refine chkN_ok (by decide) rfl ?_ ?_
  · intro j hj
    have h3 : j = 0 ∨ j = 1 := by have : twN.ln.length = 2 := rfl; omega
    have e : twN.nm.getD j bs0 = lname j ∧ twN.ln.getD j ln0 = twL := by rcases h3 with rfl | rfl <;> exact ⟨rfl, rfl⟩
    have hf : nmErr (twN.nm.take j) (twN.nm.getD j bs0) = 0 := by
      rw [e.1]
      refine nm_fresh (lname_word j (by omega)) fun h => ?_
      obtain ⟨k, hk, hk2, e2⟩ := mem_take (d := bs0) h
      have e3 : twN.nm.getD k bs0 = lname k := by rcases (show k = 0 ∨ k = 1 by omega) with rfl | rfl <;> rfl
      rw [e3] at e2
      have := lname_inj j (by omega) k (by omega) e2
      omega
    unfold lineE
    rw [hf, if_neg (by simp), e.2]
    decide +kernel
  · intro j hj
    have : j = 0 := by have : twN.fl.length = 1 := rfl; omega
    subst this
    have hf : nmErr ((twN.fl.take 0).map (·.nm)) (twN.fl.getD 0 fl0).nm = 0 := nm_fresh (fname_word 0 (by decide)) (by simp)
    have hr : routeE twN.ln (twN.fl.getD 0 fl0) = 0 := by decide +kernel
    unfold flowE
    rw [hf, if_neg (by simp), hr, if_neg (by simp)]
    have hG : twN.fl.getD 0 fl0 = twF := rfl
    rw [hG]
    unfold trafE
    rw [if_neg (by decide), if_neg (fun k => k tw_val.1), if_neg (by decide), if_neg (fun k => k tw_val.2)]
theorem tw_sk : SkP twN twP := by
  refine ⟨tw_chk, by decide, fun i hi => ?_, fun i hi => ?_⟩
  · have : i = 0 := by have : twP.length = 1 := rfl; omega
    subst this; decide
  · have : i = 0 := by have : twP.length = 1 := rfl; omega
    subst this; decide
/- the trip of the example -/
theorem tw_tr {Z : Li} (h0 : Z.C 0 = fifoC ∧ Z.c 0 = 10) (h1 : Z.C 1 = fifoC ∧ Z.c 1 = 10) : trR (toF twN twP) Z 100 = [[2, 5]] := by
  have hlen : ((toF twN twP).rt 0).length = 2 := rfl
  have hf : ∀ h, h < ((toF twN twP).rt 0).length → Z.C (lin (toF twN twP) 0 h) = fifoC ∧ 1 ≤ Z.c (lin (toF twN twP) 0 h) ∧ 2 * Z.c (lin (toF twN twP) 0 h) < 25 ∧ 25 ≤ (2 + 1) * Z.c (lin (toF twN twP) 0 h) := by
    intro h hh
    rw [hlen] at hh
    rcases (show h = 0 ∨ h = 1 by omega) with rfl | rfl
    · have e : lin (toF twN twP) 0 0 = 0 := rfl
      rw [e, h0.1, h0.2]; exact ⟨rfl, by omega, by omega, by omega⟩
    · have e : lin (toF twN twP) 0 1 = 1 := rfl
      rw [e, h1.1, h1.2]; exact ⟨rfl, by omega, by omega, by omega⟩
  have key := tr_one (F := toF twN twP) (Z := Z) (N := 100) (t := 0) (z := 25) (K := fun _ => 2) rfl tw_sk.rts rfl rfl hf
  have e0 := key 0 (by rw [hlen]; omega) (by decide)
  have e1 := key 1 (by rw [hlen]; omega) (by decide)
  have : trR (toF twN twP) Z 100 = [[tr (toF twN twP) Z 100 0 0, tr (toF twN twP) Z 100 0 1]] := rfl
  rw [this, e0, e1]; rfl
theorem tw_qu : quL twN twP (dR [[2, 5]]) 1 twP.length = [⟨3, 0, 0⟩] := by
  rw [show (1 : Int) = ((1 : Nat) : Int) from rfl, quL_nat]
  have h1 : hp (toF twN twP) 1 0 = some 1 := by decide
  refine qu_one (F := toF twN twP) rfl (h := 1) h1 ?_
  unfold arr
  rw [if_neg (by omega), if_pos]
  · rfl
  · intro j hj
    have : j = 0 := by omega
    subst this; decide
theorem tw_arr : arO twN twP (dR [[2, 5]]) 0 1 = some 3 := by
  have h : hps twN twP 0 = 2 := by decide
  rw [arO_pos (by rw [h]; omega) (by omega), if_pos]
  · rfl
  · intro j hj
    have : j = 0 := by have : (1 : Int).toNat = 1 := rfl; omega
    subst this; decide
end Go.Mc
end
section
namespace Go.Proofs.YtaomhdljcdadaaaGreat
open Go.Sx Go.Np
set_option maxRecDepth 4000
set_option maxHeartbeats 2000000
theorem aP_Ri {A B K : Prop} (k : K) (a : A := by (simp only [zA, zT, zD, zC, zN, ints_len, zR, Go.Cv.vals_len]; omega)) (b : B := by (simp only [zA, zT, zD, zC, zN, ints_len, zR, Go.Cv.vals_len]; omega)) : (A ∧ B) ∧ K := ⟨⟨a, b⟩, k⟩
theorem rInts_ok (a b : List Int) (ha : a.length ≤ 9223372036854775807) : Ctr Tryz.prog 88 [.psl 1 (ints a), .psl 1 (ints b)] [] (fun r o => o = [] ∧ r = .bp (a = b)) := by
  refine Ctr.imp ?_
  refine fn_intro (E := env 0) tys_ok rfl rfl rfl Tryz.func88 (by kernel_rfl) rfl (by kernel_rfl) ?_
  have hla := ints_len a
  have hlb := ints_len b
  (repeat' (conv => whnf); first | (refine aC (fun _ => ?_) (fun _ => ?_) <;> try (exfalso; omega)) | refine aS ?_ | refine aG ?_ | refine aD ?_ | refine aH ?_ | refine aP_Ri ?_ | refine aI ?_ | refine aJ ?_ | refine aW (.qs [0, 1, 2, 3, 4, 5, 6, 7, 8] .nil) ?_ | fail); all_goals try (conv => whnf)
  · exact ⟨rfl, Imp.bl ⟨fun h => (by cases h), fun h => by subst h; omega⟩⟩
  have hab : a.length = b.length := by omega
  refine LoopOb.mk (Y := Nat) (st := fun i => ⟨[(5, i64 i), (1, .psl 1 (ints b)), (0, .psl 1 (ints a))], []⟩)
    (inv := fun i => i ≤ a.length ∧ ∀ j < i, a.getD j 0 = b.getD j 0) (fun i => a.length - i) 0 [] ⟨by omega, by omega⟩ (by (exact aL)) ?_
  rintro i ⟨hi, hv⟩
  (repeat' (conv => whnf); first | refine aS ?_ | refine aG ?_ | refine aD ?_ | refine aH ?_ | refine aP_Ri ?_ | refine aI ?_ | refine aJ ?_ | refine aW (.qs [0, 1, 2, 3, 4, 5, 6, 7, 8] .nil) ?_ | fail); all_goals try (conv => whnf)
  refine CondOb.mk (fun hlt => ?_) (fun hlt => ?_)
  · have hst : a.getD i 0 = b.getD i 0 → ∀ j < i + 1, a.getD j 0 = b.getD j 0 := fun h j hj => by
      by_cases e : j = i
      · rw [e]; exact h
      · exact hv j (by omega)
    (repeat' (conv => whnf); first | (refine aC (fun _ => ?_) (fun _ => ?_) <;> try (exfalso; omega)) | refine aS ?_ | refine aG ?_ | refine aD ?_ | refine aH ?_ | refine aP_Ri ?_ | refine aI ?_ | refine aJ ?_ | refine aW (.qs [0, 1, 2, 3, 4, 5, 6, 7, 8] .nil) ?_ | fail); all_goals try (conv => whnf)
    · exact ⟨rfl, Imp.bl ⟨fun h => (by cases h), fun h => by subst h; exact absurd rfl (by assumption)⟩⟩
    · exact ⟨i + 1, [], ⟨by omega, hst (by omega)⟩, by omega, by (exact aL)⟩
  · (repeat' (conv => whnf); first | refine aC (fun _ => ?_) (fun _ => ?_) | refine aS ?_ | refine aG ?_ | refine aD ?_ | refine aH ?_ | refine aP_Ri ?_ | refine aI ?_ | refine aJ ?_ | refine aW (.qs [0, 1, 2, 3, 4, 5, 6, 7, 8] .nil) ?_ | fail); all_goals try (conv => whnf)
    refine ⟨rfl, Imp.bl ⟨fun _ => ?_, fun _ => rfl⟩⟩
    apply List.ext_getElem hab
    intro j h1 h2
    have := hv j (by omega)
    rw [List.getD_eq_getElem?_getD, List.getD_eq_getElem?_getD, List.getElem?_eq_getElem h1, List.getElem?_eq_getElem h2, Option.getD_some, Option.getD_some] at this
    exact this
end Go.Proofs.YtaomhdljcdadaaaGreat
end
