/-
  A text of the proofs of this seat: lemmas that the statements' proofs use; it states nothing of the program by itself beyond the contracts that its theorems bear. Conditions: those that stand in each theorem. Its short name: So8 Mf Mu.
-/
import Derived.Test.YtaomhdljcdadaaaGreatSo6
import Derived.Test.YtaomhdljcdadaaaGreatMr
import Derived.Test.YtaomhdljcdadaaaGreatMtt
set_option linter.unusedVariables false
set_option linter.unusedSimpArgs false
section
namespace Go.Proofs.YtaomhdljcdadaaaGreat
open Go.Sx Go.Pk Go.Mc Go.Np
set_option maxRecDepth 4000
set_option maxHeartbeats 2000000
theorem aP_So8 {A B K : Prop} (k : K) (a : A := by (simp only [zA, zT, zD, zC, zN, ints_len, zR, Go.Cv.vals_len]; omega)) (b : B := by (simp only [zA, zT, zD, zC, zN, ints_len, zR, Go.Cv.vals_len]; omega)) : (A ∧ B) ∧ K := ⟨⟨a, b⟩, k⟩
/-! whether a trip is the one of its packets -/
theorem CloneI_ok (l : List Int) (h0 : l ≠ []) (hl : l.length ≤ 1000000) : Ctr Tryz.prog 90 [.psl 1 (ints l)] [] (fun r o => o = [.vec 1 (ints l)] ∧ r = .vec 0) := by
  refine fn_intro (E := env 0) tys_ok rfl rfl rfl Tryz.func90 (by kernel_rfl) rfl (by kernel_rfl) ?_
  have hn := ints_len l
  (repeat' (conv => whnf); first | refine AsgOb.nil ?_ | refine aC (fun _ => ?_) (fun _ => ?_) | refine aS ?_ | refine aG ?_ | refine aD ?_ | refine aH ?_ | refine aP_So8 ?_ | refine aI ?_ | refine aJ ?_ | fail); all_goals try (conv => whnf)
  refine .ne (by simpa [ints] using h0) ?_
  (repeat' (conv => whnf); first | refine aC (fun _ => ?_) (fun _ => ?_) | refine aS ?_ | refine aG ?_ | refine aD ?_ | refine aP_So8 ?_ | refine aI ?_ | refine aJ ?_ | fail); all_goals try (conv => whnf)
  refine .mk [.wk [1] ⟨[(2, .vec 0)], [.vec 1 (ints l)]⟩] ⟨by (exact aL), ?_⟩
  exact ⟨rfl, rfl⟩
theorem Cons_ok (n : Nt) (hn : NL n) (p : List Pk) (h : SkP n p) (N : Nat) (hN : N ≤ 2000) (ms : List (List Int)) (hS : ShM (toF n p) N ms) :
    Ctr Tryz.prog 46 [ntv n, .psl 3 (pks p), .agg [.psl 1 (trs ms)], i64 N] [] (fun r o => o = [] ∧ ∃ b : Bool, (b = true ↔ ms = trR (toF n p) (liN n) N) ∧ r = .bl b) := by
  refine fn_intro (E := env 0) tys_ok rfl rfl rfl Tryz.func46 (by kernel_rfl) rfl (by kernel_rfl) ?_
  have h60 := h.l
  have hpl := pks_len p
  have hfl := fll n.fl
  have hlnl := lnl n.ln
  have hc8 := chk_n h.h
  have htl := trs_len ms
  have hml : ms.length = p.length := hS.l
  (repeat' (conv => whnf); first | (refine aC (fun _ => ?_) (fun _ => ?_) <;> try (exfalso; omega)) | refine aS ?_ | refine aG ?_ | refine aD ?_ | refine aH ?_ | refine aP_So8 ?_ | refine aI ?_ | refine aJ ?_ | refine aW (.qs [0, 1, 2, 3, 4, 5, 6, 7, 8] (.l 9 [4, 1] (.qs [10] .nil) .no)) ?_ | refine aW (.qs [0, 1, 2, 3, 4, 5, 6] (.l 7 [1] (.l 8 [1] (.l 9 [] (.qs [10] (.l 11 [] .nil .no)) .no) .no) .no)) ?_ | fail); all_goals try (conv => whnf)
  refine aK [] (SChk_ok n hn p (by omega)) ?_
  rw [sck_zero.2 h]
  (repeat' (conv => whnf); first | (refine aC (fun _ => ?_) (fun _ => ?_) <;> try (exfalso; omega)) | refine aS ?_ | refine aG ?_ | refine aD ?_ | refine aP_So8 ?_ | refine aI ?_ | refine aJ ?_ | refine aW (.qs [0, 1, 2, 3, 4, 5, 6, 7, 8] (.l 9 [4, 1] (.qs [10] .nil) .no)) ?_ | refine aW (.qs [0, 1, 2, 3, 4, 5, 6] (.l 7 [1] (.l 8 [1] (.l 9 [] (.qs [10] (.l 11 [] .nil .no)) .no) .no) .no)) ?_ | fail); all_goals try (conv => whnf)
  refine .mk [.nm 2 0 1] ?_
  refine LoopOb.mk (Y := Nat) (st := fun i => ⟨[(36, i64 i), (35, i64 (pks p).length), (34, .psl 3 (pks p)), (9, .ptr 2 0), (6, .ptr 1 0), (4, .ptr 0 0), (1, .psl 3 (pks p)), (3, i64 N)], [nbx n, .box [.psl 1 (trs ms)], .box [.vec 3], .mat 1 ((ms.take i).map ints)]⟩)
    (inv := fun i => i ≤ p.length) (fun i => p.length - i) 0 [0, 1, 2, 3] (by omega) (by (exact aL)) ?_
  rintro i hi
  have hel : ((ms.take i).map ints).length = i := by rw [List.length_map, List.length_take]; omega
  by_cases hip : i < p.length
  · have hgt := trs_get (ms := ms) (i := i) (by omega)
    obtain ⟨f1, f2, _, _, hG, _⟩ := h.fl hip
    have hG1 := hG.l1
    have hG4 := hG.l2
    have hrl := hS.r i hip
    have hhp : hps n p (i : Int) = ((ms.getD i []).length : Int) := by
      unfold hps
      rw [Int.toNat_natCast, if_neg (by omega), hrl]
      show _ = (((pfl n (p.getD i pk0)).rt.map Int.toNat).length : Int)
      rw [List.length_map]
    have hr4 : (ms.getD i []).length = (pfl n (p.getD i pk0)).rt.length := by
      rw [hrl]
      show ((pfl n (p.getD i pk0)).rt.map Int.toNat).length = _
      rw [List.length_map]
    have hnx : (ms.take i).map ints ++ [ints (ms.getD i [])] = (ms.take (i + 1)).map ints := by
      rw [List.take_succ_eq_append_getElem (by omega), List.map_append, List.getD_eq_getElem?_getD, List.getElem?_eq_getElem (by omega)]; rfl
    have hcl := CloneI_ok (ms.getD i []) (fun e => by have := congrArg List.length e; rw [List.length_nil] at this; omega) (by omega)
    generalize ms.getD i [] = row at *
    have hrowl := ints_len row
    (repeat' (conv => whnf); first | (refine aK [] (hops_ok n hn p (by omega) i) ?_; rw [hhp]) | refine ⟨i, _, rfl, hgt, ?_⟩ | (refine aC (fun _ => ?_) (fun _ => ?_) <;> try (exfalso; omega)) | refine aS ?_ | refine aG ?_ | refine aD ?_ | refine aH ?_ | refine aP_So8 ?_ | refine aI ?_ | refine aJ ?_ | refine aW (.qs [0, 1, 2, 3, 4, 5, 6, 7, 8] (.l 9 [4, 1] (.qs [10] .nil) .no)) ?_ | refine aW (.qs [0, 1, 2, 3, 4, 5, 6] (.l 7 [1] (.l 8 [1] (.l 9 [] (.qs [10] (.l 11 [] .nil .no)) .no) .no) .no)) ?_ | (refine aK [] (hcl) ?_) | fail); all_goals try (conv => whnf)
    exact ⟨i + 1, [0, 1, 2, 6], by omega, by omega, by rw [← hnx]; (exact aL)⟩
  · obtain rfl : i = p.length := by omega
    rw [List.take_of_length_le (by omega)]
    (repeat' (conv => whnf); first | (refine aC (fun _ => ?_) (fun _ => ?_) <;> try (exfalso; omega)) | refine aS ?_ | refine aG ?_ | refine aD ?_ | refine aH ?_ | refine aP_So8 ?_ | refine aI ?_ | refine aJ ?_ | refine aW (.qs [0, 1, 2, 3, 4, 5, 6, 7, 8] (.l 9 [4, 1] (.qs [10] .nil) .no)) ?_ | refine aW (.qs [0, 1, 2, 3, 4, 5, 6] (.l 7 [1] (.l 8 [1] (.l 9 [] (.qs [10] (.l 11 [] .nil .no)) .no) .no) .no)) ?_ | fail); all_goals try (conv => whnf)
    refine LoopOb.mk (Y := Nat) (st := fun l => ⟨[(65, i64 l), (64, i64 (lns n.ln).length), (9, .ptr 2 0), (6, .ptr 1 0), (4, .ptr 0 0), (1, .psl 3 (pks p)), (3, i64 N)], [nbx n, .box [.psl 1 (trs ms)], .box [.vec 3], .mat 1 (ms.map ints)]⟩)
      (inv := fun l => l ≤ n.ln.length ∧ ∀ j, j < l → ¬ChgM (toF n p) (liN n) N j ms fun _ => true) (fun l => n.ln.length - l) 0 [0, 1, 2, 3] ⟨by omega, fun j hj => by omega⟩ (by (exact aL)) ?_
    rintro l ⟨hl, hc⟩
    by_cases hll : l < n.ln.length
    · (repeat' (conv => whnf); first | (refine aC (fun _ => ?_) (fun _ => ?_) <;> try (exfalso; omega)) | refine aS ?_ | refine aG ?_ | refine aD ?_ | refine aH ?_ | refine aP_So8 ?_ | refine aI ?_ | refine aJ ?_ | refine aW (.qs [0, 1, 2, 3, 4, 5, 6, 7, 8] (.l 9 [4, 1] (.qs [10] .nil) .no)) ?_ | refine aW (.qs [0, 1, 2, 3, 4, 5, 6] (.l 7 [1] (.l 8 [1] (.l 9 [] (.qs [10] (.l 11 [] .nil .no)) .no) .no) .no)) ?_ | fail); all_goals try (conv => whnf)
      refine CallOb.mk [3] (pass_ok n hn p h N hN ms hS l hll) rfl (ImpL.refl _) rfl rfl ?_
      rintro _ _ ⟨c', hc', rfl, rfl⟩
      cases c' with
      | true =>
        (repeat' (conv => whnf); first | (refine aC (fun _ => ?_) (fun _ => ?_) <;> try (exfalso; omega)) | refine aS ?_ | refine aG ?_ | refine aD ?_ | refine aH ?_ | refine aP_So8 ?_ | refine aI ?_ | refine aJ ?_ | refine aW (.qs [0, 1, 2, 3, 4, 5, 6, 7, 8] (.l 9 [4, 1] (.qs [10] .nil) .no)) ?_ | refine aW (.qs [0, 1, 2, 3, 4, 5, 6] (.l 7 [1] (.l 8 [1] (.l 9 [] (.qs [10] (.l 11 [] .nil .no)) .no) .no) .no)) ?_ | fail); all_goals try (conv => whnf)
        refine ⟨rfl, false, ⟨fun e => (by cases e), fun e => ?_⟩, rfl⟩
        subst e
        exact absurd (hc'.1 rfl) (tr_fix h.rts)
      | false =>
        have hn' : ¬ChgM (toF n p) (liN n) N l ms fun _ => true := fun k => by have := hc'.2 k; cases this
        rw [pasM_same h.rts hS hn']
        (repeat' (conv => whnf); first | (refine aC (fun _ => ?_) (fun _ => ?_) <;> try (exfalso; omega)) | refine aS ?_ | refine aG ?_ | refine aD ?_ | refine aH ?_ | refine aP_So8 ?_ | refine aI ?_ | refine aJ ?_ | refine aW (.qs [0, 1, 2, 3, 4, 5, 6, 7, 8] (.l 9 [4, 1] (.qs [10] .nil) .no)) ?_ | refine aW (.qs [0, 1, 2, 3, 4, 5, 6] (.l 7 [1] (.l 8 [1] (.l 9 [] (.qs [10] (.l 11 [] .nil .no)) .no) .no) .no)) ?_ | fail); all_goals try (conv => whnf)
        exact ⟨l + 1, [0, 1, 2, 3], ⟨by omega, fun j hj => by
          rcases Nat.lt_succ_iff_lt_or_eq.1 hj with h | h
          · exact hc j h
          · subst h; exact hn'⟩, by omega, by (exact aL)⟩
    · obtain rfl : l = n.ln.length := by omega
      have := con_end h.rts (LnP.of h) hS hc
      (repeat' (conv => whnf); first | (refine aC (fun _ => ?_) (fun _ => ?_) <;> try (exfalso; omega)) | refine aS ?_ | refine aG ?_ | refine aD ?_ | refine aH ?_ | refine aP_So8 ?_ | refine aI ?_ | refine aJ ?_ | refine aW (.qs [0, 1, 2, 3, 4, 5, 6, 7, 8] (.l 9 [4, 1] (.qs [10] .nil) .no)) ?_ | refine aW (.qs [0, 1, 2, 3, 4, 5, 6] (.l 7 [1] (.l 8 [1] (.l 9 [] (.qs [10] (.l 11 [] .nil .no)) .no) .no) .no)) ?_ | fail); all_goals try (conv => whnf)
      exact ⟨rfl, true, ⟨fun _ => this, fun _ => rfl⟩, rfl⟩
end Go.Proofs.YtaomhdljcdadaaaGreat
end
section
namespace Go.Mc
open Go.Pk Go.Np
/-! one packet alone -/
variable {x : Pk} {c : Nat}
theorem asc_one : Asc [x] := fun i j hij hj => by
  have : j < 1 := hj
  have e1 : j = 0 := by omega
  have e2 : i = 0 := by omega
  subst e1 e2; exact Int.le_refl _
theorem one_step {t : Nat} {S : St fifoC.σ} (hS : InvT [x] t S) {r : Nat} (hc : S.cur = some (0, r)) (h1 : 1 ≤ r) (hc1 : 1 ≤ c) :
    (r ≤ c → (tk fifoC [x] t c S).dn 0 = t) ∧ (c < r → (tk fifoC [x] t c S).cur = some (0, r - c) ∧ (tk fifoC [x] t c S).dn = S.dn) := by
  constructor
  · intro h
    rw [tk_some hc h1 h]
    have h2 := (tk_inv asc_one (c - r) (fi_inv asc_one hS hc)).2 0
    have e : (S.fi 0 t).dn 0 = t := by show upd S.dn 0 (t : Int) 0 = _; exact upd_same
    rcases h2 with h2 | h2
    · rw [h2, e]
    · rw [e] at h2; omega
  · intro h
    rw [tk_more hc hc1 h, tk]
    exact ⟨rfl, rfl⟩
theorem one_go (hc1 : 1 ≤ c) : ∀ (k t r : Nat), (run fifoC [x] c t).cur = some (0, r) → k * c < r → r ≤ (k + 1) * c → (run fifoC [x] c (t + k + 1)).dn 0 = (t + k : Nat)
  | 0, t, r, hc, h1, h2 => by
    rw [Nat.zero_add, Nat.one_mul] at h2
    exact (one_step (run_inv asc_one t).inT hc (by omega) hc1).1 h2
  | k + 1, t, r, hc, h1, h2 => by
    have hm : (k + 1) * c = k * c + c := Nat.succ_mul k c
    have hm2 : (k + 1 + 1) * c = (k + 1) * c + c := Nat.succ_mul (k + 1) c
    have := (one_step (run_inv asc_one t).inT hc (by omega) hc1).2 (by omega)
    have hg := one_go hc1 k (t + 1) (r - c) this.1 (by omega) (by omega)
    rw [show t + 1 + k + 1 = t + (k + 1) + 1 by omega, show t + 1 + k = t + (k + 1) by omega] at hg
    exact hg
theorem one_rest (hc1 : 1 ≤ c) : ∀ t : Nat, (t : Int) ≤ x.t → run fifoC [x] c t = ⟨(), none, fun _ => false, fun _ => -1⟩
  | 0, _ => rfl
  | t + 1, h => by
    have ih := one_rest hc1 t (by omega)
    show tk fifoC [x] t c (run fifoC [x] c t) = _
    rw [ih, tk_non rfl ?_ hc1]
    · rfl
    · show fst _ _ = none
      refine fst_none.2 fun j hj => ?_
      have : j < 1 := hj
      have e : j = 0 := by omega
      subst e
      cases hw : wt [x] t (fun _ => false) 0 with
      | false => rfl
      | true =>
        have := (wt_iff.1 hw).2.1
        unfold tm at this
        have e : ([x].getD 0 pk0).t = x.t := rfl
        omega
/- a packet alone needs its size by the capacity, rounded up -/
theorem one_done (hc1 : 1 ≤ c) {a K z N : Nat} (ha : x.t = a) (hz : x.s.toNat = z) (h1 : K * c < z) (h2 : z ≤ (K + 1) * c) (hN : a + K + 1 ≤ N) : (run fifoC [x] c N).dn 0 = (a + K : Nat) := by
  have key : (run fifoC [x] c (a + K + 1)).dn 0 = (a + K : Nat) := by
    have h0 := one_rest (x := x) hc1 a (by omega)
    have hk : (fifoC.ch [x] a c (wt [x] a fun _ => false) ()).2 = some 0 := by
      show fst _ _ = some 0
      refine fst_some.2 ⟨by simp, wt_iff.2 ⟨by simp, ?_, rfl⟩, fun j hj => by omega⟩
      show x.t ≤ (a : Int); omega
    have e1 : run fifoC [x] c (a + 1) = tk fifoC [x] a c ⟨(), some (0, z), upd (fun _ => false) 0 true, fun _ => -1⟩ := by
      show tk fifoC [x] a c (run fifoC [x] c a) = _
      rw [h0, tk_new rfl hk hc1]
      congr 2
      show some (0, sz [x] 0) = _
      unfold sz
      rw [show ([x].getD 0 pk0) = x from rfl, hz]
    have hI := new_inv (C := fifoC) (left := c) asc_one (run_inv (C := fifoC) (p := [x]) (c := c) asc_one a).inT (i := 0) (by rw [h0]) (by rw [h0]; exact hk)
    have hz1 : sz [x] 0 = z := by unfold sz; rw [show ([x].getD 0 pk0) = x from rfl, hz]
    rw [hz1, h0] at hI
    have hs := one_step (c := c) hI rfl (show 1 ≤ z by omega) hc1
    cases K with
    | zero =>
      rw [Nat.zero_add, Nat.one_mul] at h2
      have := hs.1 h2
      rw [show a + 0 + 1 = a + 1 by omega, e1]
      exact this
    | succ K =>
      have hm : (K + 1) * c = K * c + c := Nat.succ_mul K c
      have hm2 : (K + 1 + 1) * c = (K + 1) * c + c := Nat.succ_mul (K + 1) c
      have hcz : c < z := by
        have := Nat.zero_le (K * c); omega
      have := (hs.2 hcz).1
      have e2 : (run fifoC [x] c (a + 1)).cur = some (0, z - c) := by rw [e1]; exact this
      have hg := one_go hc1 K (a + 1) (z - c) e2 (by omega) (by omega)
      rw [show a + 1 + K + 1 = a + (K + 1) + 1 by omega, show a + 1 + K = a + (K + 1) by omega] at hg
      exact hg
  obtain ⟨k, rfl⟩ : ∃ k, N = a + K + 1 + k := ⟨N - (a + K + 1), by omega⟩
  rcases run_le asc_one (C := fifoC) (c := c) (t := a + K + 1) k 0 with h | ⟨h, _⟩
  · rw [h, key]
  · rw [key] at h; omega
end Go.Mc
end
section
namespace Go.Mc
open Go.Pk Go.Np
/-! one packet alone in a network -/
/- when it is done at each hop -/
def dnA (t : Nat) (K : Nat → Nat) : Nat → Nat
  | 0 => t + K 0
  | h + 1 => dnA t K h + 1 + K (h + 1)
theorem qu_one {F : Tf} (h1 : F.np = 1) {D : Tp} {l h : Nat} {a : Int} (hh : hp F l 0 = some h) (ha : arr F D 0 h = some a) : qu F D l = [⟨a, F.fl 0, 0⟩] := by
  refine (qu_ok F D l).uniq ⟨List.pairwise_singleton _ _, fun y => ?_⟩
  rw [List.mem_singleton]
  constructor
  · rintro rfl
    exact ⟨by rw [h1]; exact Nat.one_pos, ⟨h, hh, ha⟩, rfl⟩
  · rintro ⟨e1, ⟨k, e2, e3⟩, e4⟩
    have e0 : y.i = 0 := by omega
    rw [e0] at e2 e3 e4
    have ek : h = k := by rw [hh] at e2; exact Option.some.inj e2
    subst ek
    refine Wt.ext' ?_ e4 e0
    rw [ha] at e3; exact (Option.some.inj e3).symm
theorem tr_one {F : Tf} {Z : Li} {N t z : Nat} {K : Nat → Nat} (h1 : F.np = 1) (hR : Rts F) (ht : F.t 0 = t) (hz : (F.s 0).toNat = z)
    (hf : ∀ h, h < (F.rt 0).length → Z.C (lin F 0 h) = fifoC ∧ 1 ≤ Z.c (lin F 0 h) ∧ K h * Z.c (lin F 0 h) < z ∧ z ≤ (K h + 1) * Z.c (lin F 0 h)) :
    ∀ h, h < (F.rt 0).length → dnA t K h + 1 ≤ N → tr F Z N 0 h = dnA t K h := by
  have h0 : 0 < F.np := by omega
  intro h
  induction h using Nat.strongRecOn with
  | ind h ih =>
    intro hh hN
    have hmono : ∀ j k, j ≤ k → dnA t K j ≤ dnA t K k := by
      intro j k
      induction k with
      | zero => intro e; rw [show j = 0 by omega]; exact Nat.le_refl _
      | succ k ihk =>
        intro e
        rcases Nat.lt_or_ge j (k + 1) with e2 | e2
        · have := ihk (by omega)
          simp only [dnA]; omega
        · rw [show j = k + 1 by omega]; exact Nat.le_refl _
    obtain ⟨a, ha, hd⟩ : ∃ a : Nat, arr F (tr F Z N) 0 h = some (a : Int) ∧ dnA t K h = a + K h := by
      cases h with
      | zero => exact ⟨t, by unfold arr; rw [if_pos rfl, ht], rfl⟩
      | succ h =>
        refine ⟨dnA t K h + 1, ?_, rfl⟩
        have hall : ∀ j, j < h + 1 → tr F Z N 0 j = dnA t K j := fun j hj => ih j hj (by omega) (by have := hmono j (h + 1) (by omega); omega)
        unfold arr
        rw [if_neg (by omega), if_pos fun j hj => by rw [hall j hj]; omega]
        rw [show h + 1 - 1 = h by omega, hall h (by omega)]
        rfl
    rw [tr_con hR Z N 0 h h0 hh]
    have hp0 := hp_lin hR h0 hh
    have hq := qu_one h1 hp0 ha
    obtain ⟨f1, f2, f3, f4⟩ := hf h hh
    unfold pas
    rw [hq]
    have hpl : plc [(⟨(a : Int), F.fl 0, 0⟩ : Wt)] 0 = some 0 := rfl
    rw [hpl, f1]
    show (run fifoC [⟨F.cs 0, (a : Int), F.s 0⟩] (Z.c (lin F 0 h)) N).dn 0 = _
    rw [one_done f2 (a := a) (K := K h) (z := z) rfl hz f3 f4 (by omega), hd]
end Go.Mc
end
