/-
  A text of the proofs of this seat: lemmas that the statements' proofs use; it states nothing of the program by itself beyond the contracts that its theorems bear. Conditions: those that stand in each theorem. Its short name: Lor.
-/
import Derived.Test.YtaomhdljcdadaaaGreatSo9
import Derived.Test.YtaomhdljcdadaaaGreatMw
import Derived.Test.YtaomhdljcdadaaaGreatNw
import Derived.Test.YtaomhdljcdadaaaGreatMy
import Derived.Test.YtaomhdljcdadaaaGreatMbf
set_option linter.unusedVariables false
set_option linter.unusedSimpArgs false

namespace Go.Proofs.YtaomhdljcdadaaaGreat
open Go.Sx Go.Pk Go.Mc Go.Np
set_option maxRecDepth 4000
set_option maxHeartbeats 2000000
/-! SimulateOrder -/
theorem NetG.szs {ml mf k : Nat} {n : Nt} (h : NetG ml mf k n) : ∀ f ∈ n.fl, 1 ≤ f.lo ∧ f.lo ≤ f.hi ∧ f.hi ≤ 1500 := fun f hf => by
  have := h.g.fg f hf
  have h1 := this.lo
  have h2 := this.hi
  omega
theorem aP_Lor {A B K : Prop} (k : K) (a : A := by (simp only [zA, zT, zD, zC, zN, ints_len, zR, Go.Cv.vals_len]; omega)) (b : B := by (simp only [zA, zT, zD, zC, zN, ints_len, zR, Go.Cv.vals_len]; omega)) : (A ∧ B) ∧ K := ⟨⟨a, b⟩, k⟩
theorem Order_ok (l : List Int) (hl : l.length ≤ 9223372036854775807) :
    Ctr Tryz.prog 8 [.psl 1 (ints l)] [] (fun r o => r = .bl true) := by
  refine fn_intro (E := env 0) tys_ok rfl rfl rfl Tryz.func8 (by kernel_rfl) rfl (by kernel_rfl) ?_
  have hL : (l.take 2000).length ≤ 2000 := by rw [List.length_take]; omega
  (repeat' (conv => whnf); first | (refine aC (fun _ => ?_) (fun _ => ?_) <;> try (exfalso; omega)) | refine aS ?_ | refine aG ?_ | refine aD ?_ | refine aH ?_ | refine aP_Lor ?_ | refine aI ?_ | refine aJ ?_ | refine aW (.qs [0, 1, 2, 3, 4, 5, 6, 7, 8, 9] (.l 10 [] (.qs [11] .nil) .no)) ?_ | refine aW (.qs [0, 1, 2, 3, 4, 5, 6, 7, 8, 9, 10, 11] .nil) ?_ | refine aW (.qs [0, 1, 2, 3, 4, 5, 6, 7, 8, 9, 10, 11, 12, 13, 14, 15, 16, 17, 18, 19, 20, 21, 22, 23, 24, 25, 26, 27, 28] .nil) ?_ | refine aW (.qs [0, 1, 3, 4, 5, 6, 7] (.l 2 [7] (.qs [8] (.l 9 [] .nil .no)) .no)) ?_ | refine aW (.qs [0, 1, 2, 3, 4, 5, 6, 7, 8, 9, 10, 11, 12, 13, 14, 15] .nil) ?_ | (refine aK [] (sane_ok) ?_) | (refine aK [] (New_ok l hl) ?_) | fail); all_goals try (conv => whnf)
  · rfl
  refine CallOb.mk [0] (Net_ok _ 0 hL (by omega) 3 4 (by omega) (by omega)) rfl (ImpL.refl _) rfl rfl ?_
  rintro _ _ ⟨⟨n, k, p1⟩, ⟨hG, hp1⟩, rfl, rfl⟩
  dsimp only at hG hp1 ⊢
  have hn := hG.nl
  have hchk := hG.g.chk
  have hmf := hG.mf
  have hml := hG.ml
  have hsz := hG.szs
  have hlc : ∀ i, i < n.ln.length → 0 ≤ (n.ln.getD i ln0).c ∧ (n.ln.getD i ln0).c ≤ 4000 := fun i hi => by
    have hce := chk_ln hchk hi
    unfold lnErr at hce
    split at hce
    · cases hce
    split at hce
    · cases hce
    omega
  (repeat' (conv => whnf); first | (refine aC (fun _ => ?_) (fun _ => ?_) <;> try (exfalso; omega)) | refine aS ?_ | refine aG ?_ | refine aD ?_ | refine aH ?_ | refine aP_Lor ?_ | refine aI ?_ | refine aJ ?_ | refine aW (.qs [0, 1, 2, 3, 4, 5, 6, 7, 8, 9] (.l 10 [] (.qs [11] .nil) .no)) ?_ | refine aW (.qs [0, 1, 2, 3, 4, 5, 6, 7, 8, 9, 10, 11] .nil) ?_ | refine aW (.qs [0, 1, 2, 3, 4, 5, 6, 7, 8, 9, 10, 11, 12, 13, 14, 15, 16, 17, 18, 19, 20, 21, 22, 23, 24, 25, 26, 27, 28] .nil) ?_ | refine aW (.qs [0, 1, 3, 4, 5, 6, 7] (.l 2 [7] (.qs [8] (.l 9 [] .nil .no)) .no)) ?_ | refine aW (.qs [0, 1, 2, 3, 4, 5, 6, 7, 8, 9, 10, 11, 12, 13, 14, 15] .nil) ?_ | fail); all_goals try (conv => whnf)
  refine CallOb.mk [0] (Sends_ok _ p1 hL hp1 n hn (by omega) hsz 14 (by omega)) rfl (ImpL.refl _) rfl rfl ?_
  rintro _ _ ⟨⟨p, p2⟩, ⟨hS, hp14, hp2⟩, rfl, rfl⟩
  dsimp only at hS hp14 hp2 ⊢
  have hK := hS.sk hchk (by omega)
  have hpl := pks_len p
  have hll := lnl n.ln
  (repeat' (conv => whnf); first | (refine aC (fun _ => ?_) (fun _ => ?_) <;> try (exfalso; omega)) | refine aS ?_ | refine aG ?_ | refine aD ?_ | refine aP_Lor ?_ | refine aI ?_ | refine aJ ?_ | refine aW (.qs [0, 1, 2, 3, 4, 5, 6, 7, 8, 9] (.l 10 [] (.qs [11] .nil) .no)) ?_ | refine aW (.qs [0, 1, 2, 3, 4, 5, 6, 7, 8, 9, 10, 11] .nil) ?_ | refine aW (.qs [0, 1, 2, 3, 4, 5, 6, 7, 8, 9, 10, 11, 12, 13, 14, 15, 16, 17, 18, 19, 20, 21, 22, 23, 24, 25, 26, 27, 28] .nil) ?_ | refine aW (.qs [0, 1, 3, 4, 5, 6, 7] (.l 2 [7] (.qs [8] (.l 9 [] .nil .no)) .no)) ?_ | refine aW (.qs [0, 1, 2, 3, 4, 5, 6, 7, 8, 9, 10, 11, 12, 13, 14, 15] .nil) ?_ | fail); all_goals try (conv => whnf)
  refine .mk [.fz 2] ?_
  (repeat' (conv => whnf); first | (refine aC (fun _ => ?_) (fun _ => ?_) <;> try (exfalso; omega)) | refine aS ?_ | refine aG ?_ | refine aD ?_ | refine aH ?_ | refine aP_Lor ?_ | refine aI ?_ | refine aJ ?_ | refine aW (.qs [0, 1, 2, 3, 4, 5, 6, 7, 8, 9] (.l 10 [] (.qs [11] .nil) .no)) ?_ | refine aW (.qs [0, 1, 2, 3, 4, 5, 6, 7, 8, 9, 10, 11] .nil) ?_ | refine aW (.qs [0, 1, 2, 3, 4, 5, 6, 7, 8, 9, 10, 11, 12, 13, 14, 15, 16, 17, 18, 19, 20, 21, 22, 23, 24, 25, 26, 27, 28] .nil) ?_ | refine aW (.qs [0, 1, 3, 4, 5, 6, 7] (.l 2 [7] (.qs [8] (.l 9 [] .nil .no)) .no)) ?_ | refine aW (.qs [0, 1, 2, 3, 4, 5, 6, 7, 8, 9, 10, 11, 12, 13, 14, 15] .nil) ?_ | fail); all_goals try (conv => whnf)
  refine aK [] (Run_ok n hn p hK 1000 (by omega)) ?_
  have hsA := trR_sh (F := toF n p) (Z := liN n) (N := 1000) hK.rts
  have hMA := MsL.of hK (by omega) hsA
  have hgA := fun i k => trR_get (F := toF n p) (Z := liN n) (N := 1000) (i := i) (k := k)
  have hqA := fun l => qu_trR (F := toF n p) (liN n) 1000 l
  generalize trR (toF n p) (liN n) 1000 = A at *
  have hlA : (A.map ints).length = p.length := by rw [List.length_map]; exact hsA.l
  have htA := trs_len A
  have hAl : A.length = p.length := hsA.l
  (repeat' (conv => whnf); first | (refine aC (fun _ => ?_) (fun _ => ?_) <;> try (exfalso; omega)) | refine aS ?_ | refine aG ?_ | refine aD ?_ | refine aP_Lor ?_ | refine aI ?_ | refine aJ ?_ | refine aW (.qs [0, 1, 2, 3, 4, 5, 6, 7, 8, 9] (.l 10 [] (.qs [11] .nil) .no)) ?_ | refine aW (.qs [0, 1, 2, 3, 4, 5, 6, 7, 8, 9, 10, 11] .nil) ?_ | refine aW (.qs [0, 1, 2, 3, 4, 5, 6, 7, 8, 9, 10, 11, 12, 13, 14, 15, 16, 17, 18, 19, 20, 21, 22, 23, 24, 25, 26, 27, 28] .nil) ?_ | refine aW (.qs [0, 1, 3, 4, 5, 6, 7] (.l 2 [7] (.qs [8] (.l 9 [] .nil .no)) .no)) ?_ | refine aW (.qs [0, 1, 2, 3, 4, 5, 6, 7, 8, 9, 10, 11, 12, 13, 14, 15] .nil) ?_ | fail); all_goals try (conv => whnf)
  refine .mk [.fm 3] ?_
  refine LoopOb.mk (Y := Nat) (st := fun i => ⟨[(42, i64 i), (41, i64 (lns n.ln).length), (5, .psl 3 (pks p)), (6, .ptr 1 0), (4, .ptr 0 0)], [nbx n, .box [.psl 1 (trs A)]]⟩)
    (inv := fun i => i ≤ n.ln.length) (fun i => n.ln.length - i) 0 [1, 5] (by omega) (by (exact aL)) ?_
  rintro i hi
  by_cases hil : i < n.ln.length
  · have cQ := PQu_ok n hn p hK.l hK.rt A hMA i
    have hlo := ln_order hK.rts (liN n) 1000 i
    have hqP := fun x hx => hK.qu (N := 1000) (by omega) (fun i k hi hk => (hsA.b i k hi hk).2) (l := i) (x := x) hx
    have hql := qu_len n p (dR A) i
    have eq : quL n p (dR A) i p.length = qu (toF n p) (dR A) i := quL_nat _
    rw [hqA] at eq hqP hql
    rw [eq] at cQ
    replace cQ := cQ.mono fun r o (h : QuR _ _ r o) => (⟨h.2, h.1⟩ : o = [.vec 3 (pks (pkq (toF n p) (qu (toF n p) (tr (toF n p) (liN n) 1000) i))), .vec 1 (ints (ixs (qu (toF n p) (tr (toF n p) (liN n) 1000) i)))] ∧ r = .tup [.vec 0, .vec 1])
    generalize qu (toF n p) (tr (toF n p) (liN n) 1000) i = q at *
    generalize (fun k => (run ((liN n).C i) (pkq (toF n p) q) ((liN n).c i) 1000).dn k) = d at hlo
    have hszP : ∀ j, j < q.length → sz (pkq (toF n p) q) j ≤ 1500 := fun j hj => by
      have := (hqP q[j] (List.getElem_mem hj)).2.2.1
      unfold sz
      rw [pkq_at hj]
      show (p.getD q[j].i pk0).s.toNat ≤ 1500
      omega
    have hpq := pks_len (pkq (toF n p) q)
    rw [pkq_len] at hpq
    have hix := ints_len (ixs q)
    rw [ixs_len] at hix
    (repeat' (conv => whnf); first | (refine aC (fun _ => ?_) (fun _ => ?_) <;> try (exfalso; omega)) | refine aS ?_ | refine aG ?_ | refine aD ?_ | refine aH ?_ | refine aP_Lor ?_ | refine aI ?_ | refine aJ ?_ | refine aW (.qs [0, 1, 2, 3, 4, 5, 6, 7, 8, 9] (.l 10 [] (.qs [11] .nil) .no)) ?_ | refine aW (.qs [0, 1, 2, 3, 4, 5, 6, 7, 8, 9, 10, 11] .nil) ?_ | refine aW (.qs [0, 1, 2, 3, 4, 5, 6, 7, 8, 9, 10, 11, 12, 13, 14, 15, 16, 17, 18, 19, 20, 21, 22, 23, 24, 25, 26, 27, 28] .nil) ?_ | refine aW (.qs [0, 1, 3, 4, 5, 6, 7] (.l 2 [7] (.qs [8] (.l 9 [] .nil .no)) .no)) ?_ | refine aW (.qs [0, 1, 2, 3, 4, 5, 6, 7, 8, 9, 10, 11, 12, 13, 14, 15] .nil) ?_ | fail); all_goals try (conv => whnf)
    refine aK [] cQ ?_
    (repeat' (conv => whnf); first | (refine aC (fun _ => ?_) (fun _ => ?_) <;> try (exfalso; omega)) | refine aS ?_ | refine aG ?_ | refine aD ?_ | refine aP_Lor ?_ | refine aI ?_ | refine aJ ?_ | refine aW (.qs [0, 1, 2, 3, 4, 5, 6, 7, 8, 9] (.l 10 [] (.qs [11] .nil) .no)) ?_ | refine aW (.qs [0, 1, 2, 3, 4, 5, 6, 7, 8, 9, 10, 11] .nil) ?_ | refine aW (.qs [0, 1, 2, 3, 4, 5, 6, 7, 8, 9, 10, 11, 12, 13, 14, 15, 16, 17, 18, 19, 20, 21, 22, 23, 24, 25, 26, 27, 28] .nil) ?_ | refine aW (.qs [0, 1, 3, 4, 5, 6, 7] (.l 2 [7] (.qs [8] (.l 9 [] .nil .no)) .no)) ?_ | refine aW (.qs [0, 1, 2, 3, 4, 5, 6, 7, 8, 9, 10, 11, 12, 13, 14, 15] .nil) ?_ | fail); all_goals try (conv => whnf)
    refine .mk [.fz 2, .fz 3] ?_
    have hcl := hlc i hil
    have hgl := lng (l := n.ln) (i := i) hil
    refine LoopOb.mk (Y := Nat × List (Int × SV) × List (Int × SV)) (st := fun y => ⟨[(62, i64 y.1), (61, i64 (pks (pkq (toF n p) q)).length), (11, .mp 2), (12, .mp 3), (10, .psl 1 (ints (ixs q))), (9, .psl 3 (pks (pkq (toF n p) q))), (8, i64 i), (42, i64 i), (41, i64 (lns n.ln).length), (5, .psl 3 (pks p)), (6, .ptr 1 0), (4, .ptr 0 0)], [nbx n, .box [.psl 1 (trs A)], .mapI y.2.1, .mapI y.2.2]⟩)
      (inv := fun y => y.1 ≤ q.length ∧ OrL (pkq (toF n p) q) d y.2.1 y.1 ∧ OrM (pkq (toF n p) q) d y.2.2 y.1) (fun y => q.length - y.1) (0, [], []) [0, 1, 4, 5] ⟨Nat.zero_le _, OrL.zero _ _, OrM.zero _ _⟩ (by (exact aL)) ?_
    rintro ⟨k, m1, m2⟩ ⟨hk, hO1, hO2⟩
    dsimp only at hk hO1 hO2 ⊢
    by_cases hkl : k < q.length
    · have gq := pks_get (l := pkq (toF n p) q) (j := k) (by rw [pkq_len]; exact hkl)
      have gx := ints_get (l := ixs q) (j := k) (by rw [← ixs_len q] at hkl; simpa using hkl)
      have hx := hqP q[k] (List.getElem_mem hkl)
      obtain ⟨hxi, h, hh⟩ := hlo.p k hkl
      have hv := hlo.v k hkl h hh
      have ht := hlo.t k hkl
      have hpk := pkq_at (F := toF n p) hkl
      have hix2 : (ixs q).getD k 0 = (q[k].i : Int) := by simp [ixs, hkl]
      have hm1 : ∀ hk1 : k - 1 < q.length, q[k - 1].a ≤ q[k].a := fun hk1 => hlo.m (k - 1) k hk1 hkl (by omega)
      have hpk1 : ∀ hk1 : k - 1 < q.length, (pkq (toF n p) q).getD (k - 1) pk0 = ⟨_, q[k - 1].a, _⟩ := fun hk1 => pkq_at (F := toF n p) hk1
      have hord : ∀ j, j < k → cl (pkq (toF n p) q) j = cl (pkq (toF n p) q) k → d k ≠ -1 → d j ≠ -1 ∧ d j ≤ d k := fun j hj hc hd => hlo.o j k hj hc hd
      have gq1 : ∀ hk1 : k - 1 < q.length, _ := fun hk1 => pks_get (l := pkq (toF n p) q) (j := k - 1) (by rw [pkq_len]; exact hk1)
      have hop' := hop_hp hK.rt (l := i) hx.1
      rw [hh] at hop'
      obtain ⟨hh1, hh2⟩ := hp_some hh
      have va := hgA q[k].i h hx.1 hh1
      have rA := hsA.r q[k].i hx.1
      have gA := trs_get (ms := A) (i := q[k].i) (by omega)
      have iA := ints_get (l := A.getD q[k].i []) (j := h) (by omega)
      have lA := ints_len (A.getD q[k].i [])
      rw [va, hv] at iA
      have gp := pks_get (l := p) (j := q[k].i) hx.1
      rw [hix2] at gx
      have esz : (sz (pkq (toF n p) q) k : Int) = ((pkq (toF n p) q).getD k pk0).s := by
        unfold sz
        rw [hpk]
        show (((p.getD q[k].i pk0).s.toNat : Nat) : Int) = (p.getD q[k].i pk0).s
        omega
      have esb : 1 ≤ ((pkq (toF n p) q).getD k pk0).s ∧ ((pkq (toF n p) q).getD k pk0).s ≤ 1500 := by
        rw [hpk]; exact ⟨hx.2.1, hx.2.2.1⟩
      have eta : ((pkq (toF n p) q).getD k pk0).t = q[k].a := by rw [hpk]
      have ecl : cl (pkq (toF n p) q) k = ((pkq (toF n p) q).getD k pk0).f := rfl
      dsimp only at hop'
      have hkb : k < 60 := by omega
      have gqk : ∃ w : Pk, (0 < k → (pks (pkq (toF n p) q))[k - 1]? = some (pkw w)) ∧ w.t ≤ q[k].a ∧ -5000 ≤ w.t := by
        by_cases hk0 : 0 < k
        · have hk1 : k - 1 < q.length := by omega
          have h3 := (hqP q[k - 1] (List.getElem_mem hk1)).2.2.2.1
          refine ⟨_, fun _ => gq1 hk1, ?_, ?_⟩
          · rw [hpk1 hk1]; exact hm1 hk1
          · rw [hpk1 hk1]; dsimp only; omega
        · have h3 := hx.2.2.2.1
          exact ⟨⟨0, q[k].a, 0⟩, fun h => absurd h hk0, Int.le_refl _, by dsimp only; omega⟩
      obtain ⟨w, gw, hw1, hw2⟩ := gqk
      clear gq1 hm1 hpk1 hgA hqA hqP hv va hpk hsA hix2 hlo
      generalize (pkq (toF n p) q).getD k pk0 = x at *
      generalize q[k].i = xi at *
      generalize q[k].a = xa at *
      generalize A.getD xi [] = ra at *
      have hxp := hx.1
      have hxa := hx.2.2.2.1
      have hxa2 := hx.2.2.2.2.1
      clear hx
      (repeat' (conv => whnf); first | refine ⟨xi, _, rfl, gp, ?_⟩ | refine ⟨k, _, rfl, gx, ?_⟩ | (refine aC (fun _ => ?_) (fun _ => ?_) <;> try (exfalso; omega)) | refine aS ?_ | refine aG ?_ | refine aD ?_ | refine aH ?_ | refine aP_Lor ?_ | refine aI ?_ | refine aJ ?_ | refine aW (.qs [0, 1, 2, 3, 4, 5, 6, 7, 8, 9] (.l 10 [] (.qs [11] .nil) .no)) ?_ | refine aW (.qs [0, 1, 2, 3, 4, 5, 6, 7, 8, 9, 10, 11] .nil) ?_ | refine aW (.qs [0, 1, 2, 3, 4, 5, 6, 7, 8, 9, 10, 11, 12, 13, 14, 15, 16, 17, 18, 19, 20, 21, 22, 23, 24, 25, 26, 27, 28] .nil) ?_ | refine aW (.qs [0, 1, 3, 4, 5, 6, 7] (.l 2 [7] (.qs [8] (.l 9 [] .nil .no)) .no)) ?_ | refine aW (.qs [0, 1, 2, 3, 4, 5, 6, 7, 8, 9, 10, 11, 12, 13, 14, 15] .nil) ?_ | fail); all_goals try (conv => whnf)
      refine aK [] (rHop_ok n hn (p.getD xi pk0).f i) ?_
      rw [hop']
      (repeat' (conv => whnf); first | refine ⟨k - 1, _, by omega, gw (by omega), ?_⟩ | refine ⟨h, _, rfl, iA, ?_⟩ | refine ⟨xi, _, rfl, gA, ?_⟩ | refine ⟨k, _, rfl, gq, ?_⟩ | refine ⟨k, _, rfl, gx, ?_⟩ | (refine aC (fun _ => ?_) (fun _ => ?_) <;> try (exfalso; omega)) | refine aS ?_ | refine aG ?_ | refine aD ?_ | refine aH ?_ | refine aP_Lor ?_ | refine aI ?_ | refine aJ ?_ | refine aW (.qs [0, 1, 2, 3, 4, 5, 6, 7, 8, 9] (.l 10 [] (.qs [11] .nil) .no)) ?_ | refine aW (.qs [0, 1, 2, 3, 4, 5, 6, 7, 8, 9, 10, 11] .nil) ?_ | refine aW (.qs [0, 1, 2, 3, 4, 5, 6, 7, 8, 9, 10, 11, 12, 13, 14, 15, 16, 17, 18, 19, 20, 21, 22, 23, 24, 25, 26, 27, 28] .nil) ?_ | refine aW (.qs [0, 1, 3, 4, 5, 6, 7] (.l 2 [7] (.qs [8] (.l 9 [] .nil .no)) .no)) ?_ | refine aW (.qs [0, 1, 2, 3, 4, 5, 6, 7, 8, 9, 10, 11, 12, 13, 14, 15] .nil) ?_ | fail); all_goals try (conv => whnf)
      · have hdk : d k ≠ -1 := by omega
        have hd0 : 0 ≤ d k := by omega
        obtain ⟨lk1, lk2⟩ := hO2.look hd0
        have hdb := doneA_le (p := pkq (toF n p) q) (d := d) (v := d k) (B := 1500) (m := k) fun j hj => hszP j (by omega)
        refine MapOb.mk (fun v hv => ?_) (fun hv => ?_)
        · obtain ⟨j, hj, hc, hd, rfl⟩ := hO1.look hv
          have hdj := (hord j hj (by rw [hc, ecl]) hdk).2
          have hn1 : m1.lookup x.f ≠ none := fun h => by rw [h] at hv; cases hv
          have hO1' := hO1.hit hdk (by rw [ecl]; exact hn1)
          rw [ecl] at hO1'
          (repeat' (conv => whnf); first | refine ⟨k, _, rfl, gq, ?_⟩ | (refine aC (fun _ => ?_) (fun _ => ?_) <;> try (exfalso; omega)) | refine aS ?_ | refine aG ?_ | refine aD ?_ | refine aH ?_ | refine aP_Lor ?_ | refine aI ?_ | refine aJ ?_ | refine aW (.qs [0, 1, 2, 3, 4, 5, 6, 7, 8, 9] (.l 10 [] (.qs [11] .nil) .no)) ?_ | refine aW (.qs [0, 1, 2, 3, 4, 5, 6, 7, 8, 9, 10, 11] .nil) ?_ | refine aW (.qs [0, 1, 2, 3, 4, 5, 6, 7, 8, 9, 10, 11, 12, 13, 14, 15, 16, 17, 18, 19, 20, 21, 22, 23, 24, 25, 26, 27, 28] .nil) ?_ | refine aW (.qs [0, 1, 3, 4, 5, 6, 7] (.l 2 [7] (.qs [8] (.l 9 [] .nil .no)) .no)) ?_ | refine aW (.qs [0, 1, 2, 3, 4, 5, 6, 7, 8, 9, 10, 11, 12, 13, 14, 15] .nil) ?_ | fail); all_goals try (conv => whnf)
          refine PutOb.mk (fun _ => ?_) (fun h => absurd h hn1)
          generalize mset m1 x.f (.num .i64 (d k)) = m1' at *
          (repeat' (conv => whnf); first | refine ⟨k, _, rfl, gq, ?_⟩ | (refine aC (fun _ => ?_) (fun _ => ?_) <;> try (exfalso; omega)) | refine aS ?_ | refine aG ?_ | refine aD ?_ | refine aH ?_ | refine aP_Lor ?_ | refine aI ?_ | refine aJ ?_ | refine aW (.qs [0, 1, 2, 3, 4, 5, 6, 7, 8, 9] (.l 10 [] (.qs [11] .nil) .no)) ?_ | refine aW (.qs [0, 1, 2, 3, 4, 5, 6, 7, 8, 9, 10, 11] .nil) ?_ | refine aW (.qs [0, 1, 2, 3, 4, 5, 6, 7, 8, 9, 10, 11, 12, 13, 14, 15, 16, 17, 18, 19, 20, 21, 22, 23, 24, 25, 26, 27, 28] .nil) ?_ | refine aW (.qs [0, 1, 3, 4, 5, 6, 7] (.l 2 [7] (.qs [8] (.l 9 [] .nil .no)) .no)) ?_ | refine aW (.qs [0, 1, 2, 3, 4, 5, 6, 7, 8, 9, 10, 11, 12, 13, 14, 15] .nil) ?_ | fail); all_goals try (conv => whnf)
          refine MapOb.mk (fun v hv2 => ?_) (fun hv2 => ?_)
          · have hw := lk1 v hv2
            subst hw
            have hn2 : m2.lookup (d k) ≠ none := fun h => by rw [h] at hv2; cases hv2
            have hO2' := hO2.hit (u := d k) (w := (doneA (pkq (toF n p) q) d (d k) k : Nat) + x.s) rfl (by omega) hn2
            (repeat' (conv => whnf); first | refine ⟨k, _, rfl, gq, ?_⟩ | (refine aC (fun _ => ?_) (fun _ => ?_) <;> try (exfalso; omega)) | refine aS ?_ | refine aG ?_ | refine aD ?_ | refine aH ?_ | refine aP_Lor ?_ | refine aI ?_ | refine aJ ?_ | refine aW (.qs [0, 1, 2, 3, 4, 5, 6, 7, 8, 9] (.l 10 [] (.qs [11] .nil) .no)) ?_ | refine aW (.qs [0, 1, 2, 3, 4, 5, 6, 7, 8, 9, 10, 11] .nil) ?_ | refine aW (.qs [0, 1, 2, 3, 4, 5, 6, 7, 8, 9, 10, 11, 12, 13, 14, 15, 16, 17, 18, 19, 20, 21, 22, 23, 24, 25, 26, 27, 28] .nil) ?_ | refine aW (.qs [0, 1, 3, 4, 5, 6, 7] (.l 2 [7] (.qs [8] (.l 9 [] .nil .no)) .no)) ?_ | refine aW (.qs [0, 1, 2, 3, 4, 5, 6, 7, 8, 9, 10, 11, 12, 13, 14, 15] .nil) ?_ | fail); all_goals try (conv => whnf)
            refine PutOb.mk (fun _ => ?_) (fun h => absurd h hn2)
            generalize mset m2 (d k) (.num .i64 ((doneA (pkq (toF n p) q) d (d k) k : Nat) + x.s)) = m2' at *
            (repeat' (conv => whnf); first | refine ⟨k, _, rfl, gq, ?_⟩ | (refine aC (fun _ => ?_) (fun _ => ?_) <;> try (exfalso; omega)) | refine aS ?_ | refine aG ?_ | refine aD ?_ | refine aH ?_ | refine aP_Lor ?_ | refine aI ?_ | refine aJ ?_ | refine aW (.qs [0, 1, 2, 3, 4, 5, 6, 7, 8, 9] (.l 10 [] (.qs [11] .nil) .no)) ?_ | refine aW (.qs [0, 1, 2, 3, 4, 5, 6, 7, 8, 9, 10, 11] .nil) ?_ | refine aW (.qs [0, 1, 2, 3, 4, 5, 6, 7, 8, 9, 10, 11, 12, 13, 14, 15, 16, 17, 18, 19, 20, 21, 22, 23, 24, 25, 26, 27, 28] .nil) ?_ | refine aW (.qs [0, 1, 3, 4, 5, 6, 7] (.l 2 [7] (.qs [8] (.l 9 [] .nil .no)) .no)) ?_ | refine aW (.qs [0, 1, 2, 3, 4, 5, 6, 7, 8, 9, 10, 11, 12, 13, 14, 15] .nil) ?_ | fail); all_goals try (conv => whnf)
            exact ⟨(k + 1, m1', m2'), [0, 1, 2, 3], ⟨by dsimp only; omega, hO1', hO2'⟩, by dsimp only; omega, by (exact aL)⟩
          · have e0 := lk2 hv2
            have hO2' := hO2.miss (u := d k) (w := 0 + x.s) rfl (by rw [e0]; omega) hv2
            (repeat' (conv => whnf); first | refine ⟨k, _, rfl, gq, ?_⟩ | (refine aC (fun _ => ?_) (fun _ => ?_) <;> try (exfalso; omega)) | refine aS ?_ | refine aG ?_ | refine aD ?_ | refine aH ?_ | refine aP_Lor ?_ | refine aI ?_ | refine aJ ?_ | refine aW (.qs [0, 1, 2, 3, 4, 5, 6, 7, 8, 9] (.l 10 [] (.qs [11] .nil) .no)) ?_ | refine aW (.qs [0, 1, 2, 3, 4, 5, 6, 7, 8, 9, 10, 11] .nil) ?_ | refine aW (.qs [0, 1, 2, 3, 4, 5, 6, 7, 8, 9, 10, 11, 12, 13, 14, 15, 16, 17, 18, 19, 20, 21, 22, 23, 24, 25, 26, 27, 28] .nil) ?_ | refine aW (.qs [0, 1, 3, 4, 5, 6, 7] (.l 2 [7] (.qs [8] (.l 9 [] .nil .no)) .no)) ?_ | refine aW (.qs [0, 1, 2, 3, 4, 5, 6, 7, 8, 9, 10, 11, 12, 13, 14, 15] .nil) ?_ | fail); all_goals try (conv => whnf)
            refine PutOb.mk (fun h => absurd hv2 h) (fun _ => ?_)
            generalize m2 ++ [(d k, .num .i64 (0 + x.s))] = m2' at *
            (repeat' (conv => whnf); first | refine ⟨k, _, rfl, gq, ?_⟩ | (refine aC (fun _ => ?_) (fun _ => ?_) <;> try (exfalso; omega)) | refine aS ?_ | refine aG ?_ | refine aD ?_ | refine aH ?_ | refine aP_Lor ?_ | refine aI ?_ | refine aJ ?_ | refine aW (.qs [0, 1, 2, 3, 4, 5, 6, 7, 8, 9] (.l 10 [] (.qs [11] .nil) .no)) ?_ | refine aW (.qs [0, 1, 2, 3, 4, 5, 6, 7, 8, 9, 10, 11] .nil) ?_ | refine aW (.qs [0, 1, 2, 3, 4, 5, 6, 7, 8, 9, 10, 11, 12, 13, 14, 15, 16, 17, 18, 19, 20, 21, 22, 23, 24, 25, 26, 27, 28] .nil) ?_ | refine aW (.qs [0, 1, 3, 4, 5, 6, 7] (.l 2 [7] (.qs [8] (.l 9 [] .nil .no)) .no)) ?_ | refine aW (.qs [0, 1, 2, 3, 4, 5, 6, 7, 8, 9, 10, 11, 12, 13, 14, 15] .nil) ?_ | fail); all_goals try (conv => whnf)
            exact ⟨(k + 1, m1', m2'), [0, 1, 2, 3], ⟨by dsimp only; omega, hO1', hO2'⟩, by dsimp only; omega, by (exact aL)⟩
        · have hO1' := hO1.miss hdk (by rw [ecl]; exact hv)
          rw [ecl] at hO1'
          (repeat' (conv => whnf); first | refine ⟨k, _, rfl, gq, ?_⟩ | (refine aC (fun _ => ?_) (fun _ => ?_) <;> try (exfalso; omega)) | refine aS ?_ | refine aG ?_ | refine aD ?_ | refine aH ?_ | refine aP_Lor ?_ | refine aI ?_ | refine aJ ?_ | refine aW (.qs [0, 1, 2, 3, 4, 5, 6, 7, 8, 9] (.l 10 [] (.qs [11] .nil) .no)) ?_ | refine aW (.qs [0, 1, 2, 3, 4, 5, 6, 7, 8, 9, 10, 11] .nil) ?_ | refine aW (.qs [0, 1, 2, 3, 4, 5, 6, 7, 8, 9, 10, 11, 12, 13, 14, 15, 16, 17, 18, 19, 20, 21, 22, 23, 24, 25, 26, 27, 28] .nil) ?_ | refine aW (.qs [0, 1, 3, 4, 5, 6, 7] (.l 2 [7] (.qs [8] (.l 9 [] .nil .no)) .no)) ?_ | refine aW (.qs [0, 1, 2, 3, 4, 5, 6, 7, 8, 9, 10, 11, 12, 13, 14, 15] .nil) ?_ | fail); all_goals try (conv => whnf)
          refine PutOb.mk (fun h => absurd hv h) (fun _ => ?_)
          generalize m1 ++ [(x.f, .num .i64 (d k))] = m1' at *
          (repeat' (conv => whnf); first | refine ⟨k, _, rfl, gq, ?_⟩ | (refine aC (fun _ => ?_) (fun _ => ?_) <;> try (exfalso; omega)) | refine aS ?_ | refine aG ?_ | refine aD ?_ | refine aH ?_ | refine aP_Lor ?_ | refine aI ?_ | refine aJ ?_ | refine aW (.qs [0, 1, 2, 3, 4, 5, 6, 7, 8, 9] (.l 10 [] (.qs [11] .nil) .no)) ?_ | refine aW (.qs [0, 1, 2, 3, 4, 5, 6, 7, 8, 9, 10, 11] .nil) ?_ | refine aW (.qs [0, 1, 2, 3, 4, 5, 6, 7, 8, 9, 10, 11, 12, 13, 14, 15, 16, 17, 18, 19, 20, 21, 22, 23, 24, 25, 26, 27, 28] .nil) ?_ | refine aW (.qs [0, 1, 3, 4, 5, 6, 7] (.l 2 [7] (.qs [8] (.l 9 [] .nil .no)) .no)) ?_ | refine aW (.qs [0, 1, 2, 3, 4, 5, 6, 7, 8, 9, 10, 11, 12, 13, 14, 15] .nil) ?_ | fail); all_goals try (conv => whnf)
          refine MapOb.mk (fun v hv2 => ?_) (fun hv2 => ?_)
          · have hw := lk1 v hv2
            subst hw
            have hn2 : m2.lookup (d k) ≠ none := fun h => by rw [h] at hv2; cases hv2
            have hO2' := hO2.hit (u := d k) (w := (doneA (pkq (toF n p) q) d (d k) k : Nat) + x.s) rfl (by omega) hn2
            (repeat' (conv => whnf); first | refine ⟨k, _, rfl, gq, ?_⟩ | (refine aC (fun _ => ?_) (fun _ => ?_) <;> try (exfalso; omega)) | refine aS ?_ | refine aG ?_ | refine aD ?_ | refine aH ?_ | refine aP_Lor ?_ | refine aI ?_ | refine aJ ?_ | refine aW (.qs [0, 1, 2, 3, 4, 5, 6, 7, 8, 9] (.l 10 [] (.qs [11] .nil) .no)) ?_ | refine aW (.qs [0, 1, 2, 3, 4, 5, 6, 7, 8, 9, 10, 11] .nil) ?_ | refine aW (.qs [0, 1, 2, 3, 4, 5, 6, 7, 8, 9, 10, 11, 12, 13, 14, 15, 16, 17, 18, 19, 20, 21, 22, 23, 24, 25, 26, 27, 28] .nil) ?_ | refine aW (.qs [0, 1, 3, 4, 5, 6, 7] (.l 2 [7] (.qs [8] (.l 9 [] .nil .no)) .no)) ?_ | refine aW (.qs [0, 1, 2, 3, 4, 5, 6, 7, 8, 9, 10, 11, 12, 13, 14, 15] .nil) ?_ | fail); all_goals try (conv => whnf)
            refine PutOb.mk (fun _ => ?_) (fun h => absurd h hn2)
            generalize mset m2 (d k) (.num .i64 ((doneA (pkq (toF n p) q) d (d k) k : Nat) + x.s)) = m2' at *
            (repeat' (conv => whnf); first | refine ⟨k, _, rfl, gq, ?_⟩ | (refine aC (fun _ => ?_) (fun _ => ?_) <;> try (exfalso; omega)) | refine aS ?_ | refine aG ?_ | refine aD ?_ | refine aH ?_ | refine aP_Lor ?_ | refine aI ?_ | refine aJ ?_ | refine aW (.qs [0, 1, 2, 3, 4, 5, 6, 7, 8, 9] (.l 10 [] (.qs [11] .nil) .no)) ?_ | refine aW (.qs [0, 1, 2, 3, 4, 5, 6, 7, 8, 9, 10, 11] .nil) ?_ | refine aW (.qs [0, 1, 2, 3, 4, 5, 6, 7, 8, 9, 10, 11, 12, 13, 14, 15, 16, 17, 18, 19, 20, 21, 22, 23, 24, 25, 26, 27, 28] .nil) ?_ | refine aW (.qs [0, 1, 3, 4, 5, 6, 7] (.l 2 [7] (.qs [8] (.l 9 [] .nil .no)) .no)) ?_ | refine aW (.qs [0, 1, 2, 3, 4, 5, 6, 7, 8, 9, 10, 11, 12, 13, 14, 15] .nil) ?_ | fail); all_goals try (conv => whnf)
            exact ⟨(k + 1, m1', m2'), [0, 1, 2, 3], ⟨by dsimp only; omega, hO1', hO2'⟩, by dsimp only; omega, by (exact aL)⟩
          · have e0 := lk2 hv2
            have hO2' := hO2.miss (u := d k) (w := 0 + x.s) rfl (by rw [e0]; omega) hv2
            (repeat' (conv => whnf); first | refine ⟨k, _, rfl, gq, ?_⟩ | (refine aC (fun _ => ?_) (fun _ => ?_) <;> try (exfalso; omega)) | refine aS ?_ | refine aG ?_ | refine aD ?_ | refine aH ?_ | refine aP_Lor ?_ | refine aI ?_ | refine aJ ?_ | refine aW (.qs [0, 1, 2, 3, 4, 5, 6, 7, 8, 9] (.l 10 [] (.qs [11] .nil) .no)) ?_ | refine aW (.qs [0, 1, 2, 3, 4, 5, 6, 7, 8, 9, 10, 11] .nil) ?_ | refine aW (.qs [0, 1, 2, 3, 4, 5, 6, 7, 8, 9, 10, 11, 12, 13, 14, 15, 16, 17, 18, 19, 20, 21, 22, 23, 24, 25, 26, 27, 28] .nil) ?_ | refine aW (.qs [0, 1, 3, 4, 5, 6, 7] (.l 2 [7] (.qs [8] (.l 9 [] .nil .no)) .no)) ?_ | refine aW (.qs [0, 1, 2, 3, 4, 5, 6, 7, 8, 9, 10, 11, 12, 13, 14, 15] .nil) ?_ | fail); all_goals try (conv => whnf)
            refine PutOb.mk (fun h => absurd hv2 h) (fun _ => ?_)
            generalize m2 ++ [(d k, .num .i64 (0 + x.s))] = m2' at *
            (repeat' (conv => whnf); first | refine ⟨k, _, rfl, gq, ?_⟩ | (refine aC (fun _ => ?_) (fun _ => ?_) <;> try (exfalso; omega)) | refine aS ?_ | refine aG ?_ | refine aD ?_ | refine aH ?_ | refine aP_Lor ?_ | refine aI ?_ | refine aJ ?_ | refine aW (.qs [0, 1, 2, 3, 4, 5, 6, 7, 8, 9] (.l 10 [] (.qs [11] .nil) .no)) ?_ | refine aW (.qs [0, 1, 2, 3, 4, 5, 6, 7, 8, 9, 10, 11] .nil) ?_ | refine aW (.qs [0, 1, 2, 3, 4, 5, 6, 7, 8, 9, 10, 11, 12, 13, 14, 15, 16, 17, 18, 19, 20, 21, 22, 23, 24, 25, 26, 27, 28] .nil) ?_ | refine aW (.qs [0, 1, 3, 4, 5, 6, 7] (.l 2 [7] (.qs [8] (.l 9 [] .nil .no)) .no)) ?_ | refine aW (.qs [0, 1, 2, 3, 4, 5, 6, 7, 8, 9, 10, 11, 12, 13, 14, 15] .nil) ?_ | fail); all_goals try (conv => whnf)
            exact ⟨(k + 1, m1', m2'), [0, 1, 2, 3], ⟨by dsimp only; omega, hO1', hO2'⟩, by dsimp only; omega, by (exact aL)⟩
      · have hdk : d k = -1 := by omega
        exact ⟨(k + 1, m1, m2), [0, 1, 2, 3], ⟨by dsimp only; omega, hO1.skip, hO2.skip hdk⟩, by dsimp only; omega, by (exact aL)⟩
      · have hdk : d k ≠ -1 := by omega
        have hd0 : 0 ≤ d k := by omega
        obtain ⟨lk1, lk2⟩ := hO2.look hd0
        have hdb := doneA_le (p := pkq (toF n p) q) (d := d) (v := d k) (B := 1500) (m := k) fun j hj => hszP j (by omega)
        refine MapOb.mk (fun v hv => ?_) (fun hv => ?_)
        · obtain ⟨j, hj, hc, hd, rfl⟩ := hO1.look hv
          omega
        · have hO1' := hO1.miss hdk (by rw [ecl]; exact hv)
          rw [ecl] at hO1'
          (repeat' (conv => whnf); first | refine ⟨k, _, rfl, gq, ?_⟩ | (refine aC (fun _ => ?_) (fun _ => ?_) <;> try (exfalso; omega)) | refine aS ?_ | refine aG ?_ | refine aD ?_ | refine aH ?_ | refine aP_Lor ?_ | refine aI ?_ | refine aJ ?_ | refine aW (.qs [0, 1, 2, 3, 4, 5, 6, 7, 8, 9] (.l 10 [] (.qs [11] .nil) .no)) ?_ | refine aW (.qs [0, 1, 2, 3, 4, 5, 6, 7, 8, 9, 10, 11] .nil) ?_ | refine aW (.qs [0, 1, 2, 3, 4, 5, 6, 7, 8, 9, 10, 11, 12, 13, 14, 15, 16, 17, 18, 19, 20, 21, 22, 23, 24, 25, 26, 27, 28] .nil) ?_ | refine aW (.qs [0, 1, 3, 4, 5, 6, 7] (.l 2 [7] (.qs [8] (.l 9 [] .nil .no)) .no)) ?_ | refine aW (.qs [0, 1, 2, 3, 4, 5, 6, 7, 8, 9, 10, 11, 12, 13, 14, 15] .nil) ?_ | fail); all_goals try (conv => whnf)
          refine PutOb.mk (fun h => absurd hv h) (fun _ => ?_)
          generalize m1 ++ [(x.f, .num .i64 (d k))] = m1' at *
          (repeat' (conv => whnf); first | refine ⟨k, _, rfl, gq, ?_⟩ | (refine aC (fun _ => ?_) (fun _ => ?_) <;> try (exfalso; omega)) | refine aS ?_ | refine aG ?_ | refine aD ?_ | refine aH ?_ | refine aP_Lor ?_ | refine aI ?_ | refine aJ ?_ | refine aW (.qs [0, 1, 2, 3, 4, 5, 6, 7, 8, 9] (.l 10 [] (.qs [11] .nil) .no)) ?_ | refine aW (.qs [0, 1, 2, 3, 4, 5, 6, 7, 8, 9, 10, 11] .nil) ?_ | refine aW (.qs [0, 1, 2, 3, 4, 5, 6, 7, 8, 9, 10, 11, 12, 13, 14, 15, 16, 17, 18, 19, 20, 21, 22, 23, 24, 25, 26, 27, 28] .nil) ?_ | refine aW (.qs [0, 1, 3, 4, 5, 6, 7] (.l 2 [7] (.qs [8] (.l 9 [] .nil .no)) .no)) ?_ | refine aW (.qs [0, 1, 2, 3, 4, 5, 6, 7, 8, 9, 10, 11, 12, 13, 14, 15] .nil) ?_ | fail); all_goals try (conv => whnf)
          refine MapOb.mk (fun v hv2 => ?_) (fun hv2 => ?_)
          · have hw := lk1 v hv2
            subst hw
            have hn2 : m2.lookup (d k) ≠ none := fun h => by rw [h] at hv2; cases hv2
            have hO2' := hO2.hit (u := d k) (w := (doneA (pkq (toF n p) q) d (d k) k : Nat) + x.s) rfl (by omega) hn2
            (repeat' (conv => whnf); first | refine ⟨k, _, rfl, gq, ?_⟩ | (refine aC (fun _ => ?_) (fun _ => ?_) <;> try (exfalso; omega)) | refine aS ?_ | refine aG ?_ | refine aD ?_ | refine aH ?_ | refine aP_Lor ?_ | refine aI ?_ | refine aJ ?_ | refine aW (.qs [0, 1, 2, 3, 4, 5, 6, 7, 8, 9] (.l 10 [] (.qs [11] .nil) .no)) ?_ | refine aW (.qs [0, 1, 2, 3, 4, 5, 6, 7, 8, 9, 10, 11] .nil) ?_ | refine aW (.qs [0, 1, 2, 3, 4, 5, 6, 7, 8, 9, 10, 11, 12, 13, 14, 15, 16, 17, 18, 19, 20, 21, 22, 23, 24, 25, 26, 27, 28] .nil) ?_ | refine aW (.qs [0, 1, 3, 4, 5, 6, 7] (.l 2 [7] (.qs [8] (.l 9 [] .nil .no)) .no)) ?_ | refine aW (.qs [0, 1, 2, 3, 4, 5, 6, 7, 8, 9, 10, 11, 12, 13, 14, 15] .nil) ?_ | fail); all_goals try (conv => whnf)
            refine PutOb.mk (fun _ => ?_) (fun h => absurd h hn2)
            generalize mset m2 (d k) (.num .i64 ((doneA (pkq (toF n p) q) d (d k) k : Nat) + x.s)) = m2' at *
            (repeat' (conv => whnf); first | refine ⟨k, _, rfl, gq, ?_⟩ | (refine aC (fun _ => ?_) (fun _ => ?_) <;> try (exfalso; omega)) | refine aS ?_ | refine aG ?_ | refine aD ?_ | refine aH ?_ | refine aP_Lor ?_ | refine aI ?_ | refine aJ ?_ | refine aW (.qs [0, 1, 2, 3, 4, 5, 6, 7, 8, 9] (.l 10 [] (.qs [11] .nil) .no)) ?_ | refine aW (.qs [0, 1, 2, 3, 4, 5, 6, 7, 8, 9, 10, 11] .nil) ?_ | refine aW (.qs [0, 1, 2, 3, 4, 5, 6, 7, 8, 9, 10, 11, 12, 13, 14, 15, 16, 17, 18, 19, 20, 21, 22, 23, 24, 25, 26, 27, 28] .nil) ?_ | refine aW (.qs [0, 1, 3, 4, 5, 6, 7] (.l 2 [7] (.qs [8] (.l 9 [] .nil .no)) .no)) ?_ | refine aW (.qs [0, 1, 2, 3, 4, 5, 6, 7, 8, 9, 10, 11, 12, 13, 14, 15] .nil) ?_ | fail); all_goals try (conv => whnf)
            exact ⟨(k + 1, m1', m2'), [0, 1, 2, 3], ⟨by dsimp only; omega, hO1', hO2'⟩, by dsimp only; omega, by (exact aL)⟩
          · have e0 := lk2 hv2
            have hO2' := hO2.miss (u := d k) (w := 0 + x.s) rfl (by rw [e0]; omega) hv2
            (repeat' (conv => whnf); first | refine ⟨k, _, rfl, gq, ?_⟩ | (refine aC (fun _ => ?_) (fun _ => ?_) <;> try (exfalso; omega)) | refine aS ?_ | refine aG ?_ | refine aD ?_ | refine aH ?_ | refine aP_Lor ?_ | refine aI ?_ | refine aJ ?_ | refine aW (.qs [0, 1, 2, 3, 4, 5, 6, 7, 8, 9] (.l 10 [] (.qs [11] .nil) .no)) ?_ | refine aW (.qs [0, 1, 2, 3, 4, 5, 6, 7, 8, 9, 10, 11] .nil) ?_ | refine aW (.qs [0, 1, 2, 3, 4, 5, 6, 7, 8, 9, 10, 11, 12, 13, 14, 15, 16, 17, 18, 19, 20, 21, 22, 23, 24, 25, 26, 27, 28] .nil) ?_ | refine aW (.qs [0, 1, 3, 4, 5, 6, 7] (.l 2 [7] (.qs [8] (.l 9 [] .nil .no)) .no)) ?_ | refine aW (.qs [0, 1, 2, 3, 4, 5, 6, 7, 8, 9, 10, 11, 12, 13, 14, 15] .nil) ?_ | fail); all_goals try (conv => whnf)
            refine PutOb.mk (fun h => absurd hv2 h) (fun _ => ?_)
            generalize m2 ++ [(d k, .num .i64 (0 + x.s))] = m2' at *
            (repeat' (conv => whnf); first | refine ⟨k, _, rfl, gq, ?_⟩ | (refine aC (fun _ => ?_) (fun _ => ?_) <;> try (exfalso; omega)) | refine aS ?_ | refine aG ?_ | refine aD ?_ | refine aH ?_ | refine aP_Lor ?_ | refine aI ?_ | refine aJ ?_ | refine aW (.qs [0, 1, 2, 3, 4, 5, 6, 7, 8, 9] (.l 10 [] (.qs [11] .nil) .no)) ?_ | refine aW (.qs [0, 1, 2, 3, 4, 5, 6, 7, 8, 9, 10, 11] .nil) ?_ | refine aW (.qs [0, 1, 2, 3, 4, 5, 6, 7, 8, 9, 10, 11, 12, 13, 14, 15, 16, 17, 18, 19, 20, 21, 22, 23, 24, 25, 26, 27, 28] .nil) ?_ | refine aW (.qs [0, 1, 3, 4, 5, 6, 7] (.l 2 [7] (.qs [8] (.l 9 [] .nil .no)) .no)) ?_ | refine aW (.qs [0, 1, 2, 3, 4, 5, 6, 7, 8, 9, 10, 11, 12, 13, 14, 15] .nil) ?_ | fail); all_goals try (conv => whnf)
            exact ⟨(k + 1, m1', m2'), [0, 1, 2, 3], ⟨by dsimp only; omega, hO1', hO2'⟩, by dsimp only; omega, by (exact aL)⟩
      · have hdk : d k = -1 := by omega
        exact ⟨(k + 1, m1, m2), [0, 1, 2, 3], ⟨by dsimp only; omega, hO1.skip, hO2.skip hdk⟩, by dsimp only; omega, by (exact aL)⟩
    · obtain rfl : k = q.length := by omega
      clear hO1
      by_cases hq0 : q.length = 0
      · (repeat' (conv => whnf); first | (refine aC (fun _ => ?_) (fun _ => ?_) <;> try (exfalso; omega)) | refine aS ?_ | refine aG ?_ | refine aD ?_ | refine aH ?_ | refine aP_Lor ?_ | refine aI ?_ | refine aJ ?_ | refine aW (.qs [0, 1, 2, 3, 4, 5, 6, 7, 8, 9] (.l 10 [] (.qs [11] .nil) .no)) ?_ | refine aW (.qs [0, 1, 2, 3, 4, 5, 6, 7, 8, 9, 10, 11] .nil) ?_ | refine aW (.qs [0, 1, 2, 3, 4, 5, 6, 7, 8, 9, 10, 11, 12, 13, 14, 15, 16, 17, 18, 19, 20, 21, 22, 23, 24, 25, 26, 27, 28] .nil) ?_ | refine aW (.qs [0, 1, 3, 4, 5, 6, 7] (.l 2 [7] (.qs [8] (.l 9 [] .nil .no)) .no)) ?_ | refine aW (.qs [0, 1, 2, 3, 4, 5, 6, 7, 8, 9, 10, 11, 12, 13, 14, 15] .nil) ?_ | fail); all_goals try (conv => whnf)
        exact ⟨i + 1, [0, 1], by omega, by omega, by (exact aL)⟩
      have hq0' : 0 < q.length := by omega
      have h00 := hqP q[0] (List.getElem_mem hq0')
      obtain ⟨a0, ha0⟩ : ∃ a0 : Nat, q[0].a = (a0 : Int) := ⟨q[0].a.toNat, by omega⟩
      have ha2 : a0 ≤ 2000 := by omega
      have hcap := fun k => hlo.c a0 k (fun _ => by omega)
      have hZc : (liN n).c i = (n.ln.getD i ln0).c.toNat := rfl
      rw [hZc] at hcap
      have g0 := pks_get (l := pkq (toF n p) q) (j := 0) (by rw [pkq_len]; exact hq0')
      have gt0 : ((pkq (toF n p) q).getD 0 pk0).t = a0 := by rw [pkq_at hq0']; exact ha0
      have hda : ∀ k, (doneA (pkq (toF n p) q) d ((a0 + k : Nat) : Int) q.length) ≤ 1500 * q.length := fun k => doneA_le fun j hj => hszP j hj
      have hdS : ∀ k, doneS (pkq (toF n p) q) d a0 (k + 1) = doneS (pkq (toF n p) q) d a0 k + doneA (pkq (toF n p) q) d ((a0 + k : Nat) : Int) q.length := fun k => by rw [← pkq_len (toF n p) q]; rfl
      have hlk := fun k : Nat => hO2.look (u := ((a0 + k : Nat) : Int)) (by omega)
      clear hlo hqP hszP h00 ha0 hgA hsA hqA hO2 hlc
      have hl60 : q.length ≤ 60 := by omega
      generalize hPe : pkq (toF n p) q = P at *
      have hPl : P.length = q.length := by rw [← hPe]; exact pkq_len _ _
      clear hPe
      generalize P.getD 0 pk0 = x0 at *
      generalize n.ln.getD i ln0 = w at *
      (repeat' (conv => whnf); first | refine ⟨0, _, rfl, g0, ?_⟩ | (refine aC (fun _ => ?_) (fun _ => ?_) <;> try (exfalso; omega)) | refine aS ?_ | refine aG ?_ | refine aD ?_ | refine aH ?_ | refine aP_Lor ?_ | refine aI ?_ | refine aJ ?_ | refine aW (.qs [0, 1, 2, 3, 4, 5, 6, 7, 8, 9] (.l 10 [] (.qs [11] .nil) .no)) ?_ | refine aW (.qs [0, 1, 2, 3, 4, 5, 6, 7, 8, 9, 10, 11] .nil) ?_ | refine aW (.qs [0, 1, 2, 3, 4, 5, 6, 7, 8, 9, 10, 11, 12, 13, 14, 15, 16, 17, 18, 19, 20, 21, 22, 23, 24, 25, 26, 27, 28] .nil) ?_ | refine aW (.qs [0, 1, 3, 4, 5, 6, 7] (.l 2 [7] (.qs [8] (.l 9 [] .nil .no)) .no)) ?_ | refine aW (.qs [0, 1, 2, 3, 4, 5, 6, 7, 8, 9, 10, 11, 12, 13, 14, 15] .nil) ?_ | fail); all_goals try (conv => whnf)
      rw [gt0]
      refine LoopOb.mk (Y := Nat) (st := fun k => ⟨[(19, i64 ((a0 + k : Nat) : Int)), (18, i64 (doneS P d a0 k : Nat)), (12, .mp 2), (9, .psl 3 (pks P)), (8, i64 i), (42, i64 i), (41, i64 (lns n.ln).length), (5, .psl 3 (pks p)), (6, .ptr 1 0), (4, .ptr 0 0)], [nbx n, .box [.psl 1 (trs A)], .mapI m2]⟩)
        (inv := fun k => k = 0 ∨ a0 + k ≤ 1000) (fun k => 1000 - (a0 + k)) 0 [0, 1, 3] (.inl rfl) (by (exact aL)) ?_
      rintro k hk
      by_cases hk1 : a0 + k < 1000
      · obtain ⟨lk1, lk2⟩ := hlk k
        have hc1 := hcap k (by omega)
        have hc2 := hcap (k + 1) (by omega)
        have hd1 := hda k
        have hd2 := hdS k
        have hm1 : w.c.toNat * k ≤ 4000 * 1000 := Nat.mul_le_mul (by omega) (by omega)
        have hm2 : w.c.toNat * (k + 1) ≤ 4000 * 1001 := Nat.mul_le_mul (by omega) (by omega)
        have hm3 : w.c * (((a0 + k : Nat) : Int) - x0.t + 1) = ((w.c.toNat * (k + 1) : Nat) : Int) := by
          rw [gt0, Int.natCast_mul, show ((a0 + k : Nat) : Int) - (a0 : Int) + 1 = ((k + 1 : Nat) : Int) by omega, Int.toNat_of_nonneg hcl.1]
        have hnx : ((a0 + k : Nat) : Int) + 1 = ((a0 + (k + 1) : Nat) : Int) := by omega
        clear hcap hda hlk
        generalize hs1 : doneS P d a0 (k + 1) = s1 at *
        generalize doneS P d a0 k = s0 at *
        generalize doneA P d ((a0 + k : Nat) : Int) q.length = e0 at *
        generalize w.c.toNat * (k + 1) = c1 at *
        generalize w.c.toNat * k = c0 at *
        generalize ((a0 + k : Nat) : Int) = u at *
        (repeat' (conv => whnf); first | (refine aC (fun _ => ?_) (fun _ => ?_) <;> try (exfalso; omega)) | refine aS ?_ | refine aG ?_ | refine aD ?_ | refine aH ?_ | refine aP_Lor ?_ | refine aI ?_ | refine aJ ?_ | refine aW (.qs [0, 1, 2, 3, 4, 5, 6, 7, 8, 9] (.l 10 [] (.qs [11] .nil) .no)) ?_ | refine aW (.qs [0, 1, 2, 3, 4, 5, 6, 7, 8, 9, 10, 11] .nil) ?_ | refine aW (.qs [0, 1, 2, 3, 4, 5, 6, 7, 8, 9, 10, 11, 12, 13, 14, 15, 16, 17, 18, 19, 20, 21, 22, 23, 24, 25, 26, 27, 28] .nil) ?_ | refine aW (.qs [0, 1, 3, 4, 5, 6, 7] (.l 2 [7] (.qs [8] (.l 9 [] .nil .no)) .no)) ?_ | refine aW (.qs [0, 1, 2, 3, 4, 5, 6, 7, 8, 9, 10, 11, 12, 13, 14, 15] .nil) ?_ | fail); all_goals try (conv => whnf)
        refine MapOb.mk (fun v hv => ?_) (fun hv => ?_)
        · have hw := lk1 v hv
          subst hw
          (repeat' (conv => whnf); first | refine ⟨0, _, rfl, g0, ?_⟩ | refine ⟨i, _, rfl, hgl, ?_⟩ | (refine aC (fun _ => ?_) (fun _ => ?_) <;> try (exfalso; omega)) | refine aS ?_ | refine aG ?_ | refine aD ?_ | refine aH ?_ | refine aP_Lor ?_ | refine aI ?_ | refine aJ ?_ | refine aW (.qs [0, 1, 2, 3, 4, 5, 6, 7, 8, 9] (.l 10 [] (.qs [11] .nil) .no)) ?_ | refine aW (.qs [0, 1, 2, 3, 4, 5, 6, 7, 8, 9, 10, 11] .nil) ?_ | refine aW (.qs [0, 1, 2, 3, 4, 5, 6, 7, 8, 9, 10, 11, 12, 13, 14, 15, 16, 17, 18, 19, 20, 21, 22, 23, 24, 25, 26, 27, 28] .nil) ?_ | refine aW (.qs [0, 1, 3, 4, 5, 6, 7] (.l 2 [7] (.qs [8] (.l 9 [] .nil .no)) .no)) ?_ | refine aW (.qs [0, 1, 2, 3, 4, 5, 6, 7, 8, 9, 10, 11, 12, 13, 14, 15] .nil) ?_ | fail); all_goals try (conv => whnf)
          exact ⟨k + 1, [0, 1, 2], .inr (by omega), by omega, by rw [hs1, show (s1 : Int) = (s0 : Int) + (e0 : Int) by omega, ← hnx]; (exact aL)⟩
        · have e00 := lk2 hv
          (repeat' (conv => whnf); first | refine ⟨0, _, rfl, g0, ?_⟩ | refine ⟨i, _, rfl, hgl, ?_⟩ | (refine aC (fun _ => ?_) (fun _ => ?_) <;> try (exfalso; omega)) | refine aS ?_ | refine aG ?_ | refine aD ?_ | refine aH ?_ | refine aP_Lor ?_ | refine aI ?_ | refine aJ ?_ | refine aW (.qs [0, 1, 2, 3, 4, 5, 6, 7, 8, 9] (.l 10 [] (.qs [11] .nil) .no)) ?_ | refine aW (.qs [0, 1, 2, 3, 4, 5, 6, 7, 8, 9, 10, 11] .nil) ?_ | refine aW (.qs [0, 1, 2, 3, 4, 5, 6, 7, 8, 9, 10, 11, 12, 13, 14, 15, 16, 17, 18, 19, 20, 21, 22, 23, 24, 25, 26, 27, 28] .nil) ?_ | refine aW (.qs [0, 1, 3, 4, 5, 6, 7] (.l 2 [7] (.qs [8] (.l 9 [] .nil .no)) .no)) ?_ | refine aW (.qs [0, 1, 2, 3, 4, 5, 6, 7, 8, 9, 10, 11, 12, 13, 14, 15] .nil) ?_ | fail); all_goals try (conv => whnf)
          exact ⟨k + 1, [0, 1, 2], .inr (by omega), by omega, by rw [hs1, show (s1 : Int) = (s0 : Int) + 0 by omega, ← hnx]; (exact aL)⟩
      · (repeat' (conv => whnf); first | (refine aC (fun _ => ?_) (fun _ => ?_) <;> try (exfalso; omega)) | refine aS ?_ | refine aG ?_ | refine aD ?_ | refine aH ?_ | refine aP_Lor ?_ | refine aI ?_ | refine aJ ?_ | refine aW (.qs [0, 1, 2, 3, 4, 5, 6, 7, 8, 9] (.l 10 [] (.qs [11] .nil) .no)) ?_ | refine aW (.qs [0, 1, 2, 3, 4, 5, 6, 7, 8, 9, 10, 11] .nil) ?_ | refine aW (.qs [0, 1, 2, 3, 4, 5, 6, 7, 8, 9, 10, 11, 12, 13, 14, 15, 16, 17, 18, 19, 20, 21, 22, 23, 24, 25, 26, 27, 28] .nil) ?_ | refine aW (.qs [0, 1, 3, 4, 5, 6, 7] (.l 2 [7] (.qs [8] (.l 9 [] .nil .no)) .no)) ?_ | refine aW (.qs [0, 1, 2, 3, 4, 5, 6, 7, 8, 9, 10, 11, 12, 13, 14, 15] .nil) ?_ | fail); all_goals try (conv => whnf)
        exact ⟨i + 1, [0, 1], by omega, by omega, by (exact aL)⟩
  · obtain rfl : i = n.ln.length := by omega
    (repeat' (conv => whnf); first | (refine aC (fun _ => ?_) (fun _ => ?_) <;> try (exfalso; omega)) | refine aS ?_ | refine aG ?_ | refine aD ?_ | refine aH ?_ | refine aP_Lor ?_ | refine aI ?_ | refine aJ ?_ | refine aW (.qs [0, 1, 2, 3, 4, 5, 6, 7, 8, 9] (.l 10 [] (.qs [11] .nil) .no)) ?_ | refine aW (.qs [0, 1, 2, 3, 4, 5, 6, 7, 8, 9, 10, 11] .nil) ?_ | refine aW (.qs [0, 1, 2, 3, 4, 5, 6, 7, 8, 9, 10, 11, 12, 13, 14, 15, 16, 17, 18, 19, 20, 21, 22, 23, 24, 25, 26, 27, 28] .nil) ?_ | refine aW (.qs [0, 1, 3, 4, 5, 6, 7] (.l 2 [7] (.qs [8] (.l 9 [] .nil .no)) .no)) ?_ | refine aW (.qs [0, 1, 2, 3, 4, 5, 6, 7, 8, 9, 10, 11, 12, 13, 14, 15] .nil) ?_ | (refine aK [] (sane_ok) ?_) | fail); all_goals try (conv => whnf)
    rfl
end Go.Proofs.YtaomhdljcdadaaaGreat
