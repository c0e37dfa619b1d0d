/-
  A text of the proofs of this seat: lemmas that the statements' proofs use; it states nothing of the program by itself beyond the contracts that its theorems bear. Conditions: those that stand in each theorem. Its short name: Mbc Lby.
-/
import Derived.Test.YtaomhdljcdadaaaGreatMbb
import Derived.Test.YtaomhdljcdadaaaGreatSo10
set_option linter.unusedVariables false
set_option linter.unusedSimpArgs false
section
namespace Go.Mc
open Go.Pk Go.Np
/-! one packet in a network of one flow -/
/- how many ticks more a hop needs -/
def kc (z c : Nat) : Nat := (z + c - 1) / c - 1
theorem kc_ok {z c : Nat} (hz : 1 ≤ z) (hc : 1 ≤ c) : kc z c * c < z ∧ z ≤ (kc z c + 1) * c := by
  unfold kc
  have h1 : 1 ≤ (z + c - 1) / c := by rw [Nat.le_div_iff_mul_le (by omega)]; omega
  have h2 := Nat.div_mul_le_self (z + c - 1) c
  have h3 := Nat.lt_div_mul_add (a := z + c - 1) (b := c) (by omega)
  generalize (z + c - 1) / c = m at *
  obtain ⟨m, rfl⟩ : ∃ k, m = k + 1 := ⟨m - 1, by omega⟩
  rw [Nat.add_sub_cancel]
  have h4 : (m + 1) * c = m * c + c := Nat.succ_mul m c
  omega
theorem kc_le {z c : Nat} (hz : z ≤ 1500) (hc : 4 ≤ c) : kc z c ≤ 375 := by
  unfold kc
  have h1 : (z + c - 1) / c ≤ 376 := by
    refine Nat.lt_succ_iff.1 ((Nat.div_lt_iff_lt_mul (by omega)).2 ?_)
    have : 377 * c = 376 * c + c := by omega
    have : 376 * 4 ≤ 376 * c := Nat.mul_le_mul_left 376 hc
    omega
  omega
theorem dnA_le {t B : Nat} {K : Nat → Nat} : ∀ h, (∀ j, j ≤ h → K j ≤ B) → dnA t K h ≤ t + h * (B + 1) + B
  | 0, hK => by have := hK 0 (Nat.le_refl _); simp only [dnA]; omega
  | h + 1, hK => by
    have := dnA_le (t := t) (K := K) h fun j hj => hK j (by omega)
    have h2 := hK (h + 1) (Nat.le_refl _)
    simp only [dnA]
    have : (h + 1) * (B + 1) = h * (B + 1) + (B + 1) := Nat.succ_mul h (B + 1)
    omega
/- a packet alone -/
theorem bytes {n : Nt} {t z : Nat} (hK : SkP n [⟨0, t, z⟩]) (h255 : t ≤ 255) (hz : 1 ≤ z ∧ z ≤ 1500) {Z : Li} (hf : ∀ l, l < n.ln.length → Z.C l = fifoC ∧ 4 ≤ Z.c l) (h3 : (n.fl.getD 0 fl0).rt.length ≤ 3) :
    ∀ h, h < (n.fl.getD 0 fl0).rt.length → tr (toF n [⟨0, t, z⟩]) Z 2000 0 h = dnA t (fun j => kc z (Z.c ((n.fl.getD 0 fl0).rt.getD j 0).toNat)) h ∧ dnA t (fun j => kc z (Z.c ((n.fl.getD 0 fl0).rt.getD j 0).toNat)) h ≤ 1400 := by
  intro h hh
  have hlen : ((toF n [⟨0, t, z⟩]).rt 0).length = (n.fl.getD 0 fl0).rt.length := List.length_map _
  have hlin : ∀ j, j < (n.fl.getD 0 fl0).rt.length → lin (toF n [⟨0, t, z⟩]) 0 j = ((n.fl.getD 0 fl0).rt.getD j 0).toNat ∧ lin (toF n [⟨0, t, z⟩]) 0 j < n.ln.length := fun j hj => by
    have := hK.lnn (i := 0) (k := j) (by simp) (by rw [hlen]; exact hj)
    have e : (pfl n ([⟨0, t, z⟩].getD 0 pk0)).rt.getD j 0 = (n.fl.getD 0 fl0).rt.getD j 0 := rfl
    rw [e] at this
    exact ⟨by omega, this.2⟩
  have hk : ∀ j, j < (n.fl.getD 0 fl0).rt.length → kc z (Z.c ((n.fl.getD 0 fl0).rt.getD j 0).toNat) ≤ 375 := fun j hj => by
    have h1 := hlin j hj
    have := (hf _ h1.2).2
    rw [h1.1] at this
    exact kc_le hz.2 this
  have hd := dnA_le (t := t) (B := 375) (K := fun j => kc z (Z.c ((n.fl.getD 0 fl0).rt.getD j 0).toNat)) h fun j hj => hk j (by omega)
  have hm : h * (375 + 1) ≤ 2 * 376 := Nat.mul_le_mul_right 376 (by omega)
  refine ⟨tr_one (F := toF n [⟨0, t, z⟩]) (Z := Z) (N := 2000) (t := t) (z := z) (K := fun j => kc z (Z.c ((n.fl.getD 0 fl0).rt.getD j 0).toNat)) rfl hK.rts rfl rfl (fun j hj => ?_) h (by rw [hlen]; exact hh) (by omega), by omega⟩
  rw [hlen] at hj
  have h1 := hlin j hj
  have h2 := hf _ h1.2
  rw [h1.1] at h2 ⊢
  have := kc_ok (z := z) (c := Z.c ((n.fl.getD 0 fl0).rt.getD j 0).toNat) hz.1 (by omega)
  exact ⟨h2.1, by omega, this.1, this.2⟩
end Go.Mc
end
section
namespace Go.Proofs.YtaomhdljcdadaaaGreat
open Go.Sx Go.Pk Go.Mc Go.Np
set_option maxRecDepth 4000
set_option maxHeartbeats 2000000
/-! SimulateBytes -/
abbrev onF (z : Nat) (f : Fl) : Fl := { f with cl := 0, lo := 1, hi := z }
theorem onF_g {z : Nat} (hz : 1 ≤ z ∧ z ≤ 1500) (f : Fl) : FzG (onF z) f := ⟨rfl, rfl, rfl, ⟨rfl, rfl, rfl⟩, by dsimp only; omega⟩
/- when a packet comes to a hop -/
def atA (t : Nat) (K : Nat → Nat) : Nat → Nat
  | 0 => t
  | h + 1 => dnA t K h + 1
theorem atA_dn (t : Nat) (K : Nat → Nat) : ∀ h, dnA t K h = atA t K h + K h
  | 0 => rfl
  | h + 1 => rfl
theorem aP_Lby {A B K : Prop} (k : K) (a : A := by (simp only [zA, zT, zD, zC, zN, ints_len, zR, Go.Cv.vals_len]; omega)) (b : B := by (simp only [zA, zT, zD, zC, zN, ints_len, zR, Go.Cv.vals_len]; omega)) : (A ∧ B) ∧ K := ⟨⟨a, b⟩, k⟩
theorem SBytes_ok (l : List Int) (hl : l.length ≤ 9223372036854775807) (a : Int) (a0 : 0 ≤ a ∧ a ≤ 65535) (b : Int) (b0 : 0 ≤ b ∧ b ≤ 255) :
    Ctr Tryz.prog 11 [.psl 1 (ints l), .num .u16 a, .num .u8 b] [] (fun r o => r = .bl true) := by
  refine fn_intro (E := env 0) tys_ok rfl rfl rfl Tryz.func11 (by kernel_rfl) rfl (by kernel_rfl) ?_
  have hL : (l.take 2000).length ≤ 2000 := by rw [List.length_take]; omega
  (repeat' (conv => whnf); first | (refine aC (fun _ => ?_) (fun _ => ?_) <;> try (exfalso; omega)) | refine aS ?_ | refine aG ?_ | refine aD ?_ | refine aH ?_ | refine aP_Lby ?_ | refine aI ?_ | refine aJ ?_ | refine aW (.qs [0, 1, 2, 3, 4, 5, 6, 7, 8, 9, 10] (.l 11 [] .nil .no)) ?_ | refine aW (.qs [0, 1, 2, 3, 4, 5, 6, 7] (.l 8 [3] (.qs [9, 10] (.l 11 [] .nil .no)) .no)) ?_ | refine aW (.qs [0, 1, 2, 3, 4, 5, 6, 7, 8, 9, 10, 11, 12, 13, 14, 15, 16, 17, 18, 19, 20, 21] .nil) ?_ | (refine aK [] (sane_ok) ?_) | (refine aK [] (New_ok l hl) ?_) | fail); all_goals try (conv => whnf)
  · rfl
  refine CallOb.mk [0] (NetO_ok _ 0 hL (by omega) 4 1 (by omega) (by omega)) rfl (ImpL.refl _) rfl rfl ?_
  rintro _ _ ⟨⟨n, k, p1⟩, ⟨hG, hp1⟩, rfl, rfl⟩
  dsimp only at hG hp1 ⊢
  have hn := hG.nl
  have hchk := hG.g.chk
  have hmf := hG.mf
  have hml := hG.ml
  have hll := lnl n.ln
  have hfl := fll n.fl
  by_cases h0 : n.fl.length = 0
  · (repeat' (conv => whnf); first | (refine aC (fun _ => ?_) (fun _ => ?_) <;> try (exfalso; omega)) | refine aS ?_ | refine aG ?_ | refine aD ?_ | refine aH ?_ | refine aP_Lby ?_ | refine aI ?_ | refine aJ ?_ | refine aW (.qs [0, 1, 2, 3, 4, 5, 6, 7, 8, 9, 10] (.l 11 [] .nil .no)) ?_ | refine aW (.qs [0, 1, 2, 3, 4, 5, 6, 7] (.l 8 [3] (.qs [9, 10] (.l 11 [] .nil .no)) .no)) ?_ | refine aW (.qs [0, 1, 2, 3, 4, 5, 6, 7, 8, 9, 10, 11, 12, 13, 14, 15, 16, 17, 18, 19, 20, 21] .nil) ?_ | (refine aK [] (sane_ok) ?_) | fail); all_goals try (conv => whnf)
    rfl
  (repeat' (conv => whnf); first | (refine aC (fun _ => ?_) (fun _ => ?_) <;> try (exfalso; omega)) | refine aS ?_ | refine aG ?_ | refine aD ?_ | refine aH ?_ | refine aP_Lby ?_ | refine aI ?_ | refine aJ ?_ | refine aW (.qs [0, 1, 2, 3, 4, 5, 6, 7, 8, 9, 10] (.l 11 [] .nil .no)) ?_ | refine aW (.qs [0, 1, 2, 3, 4, 5, 6, 7] (.l 8 [3] (.qs [9, 10] (.l 11 [] .nil .no)) .no)) ?_ | refine aW (.qs [0, 1, 2, 3, 4, 5, 6, 7, 8, 9, 10, 11, 12, 13, 14, 15, 16, 17, 18, 19, 20, 21] .nil) ?_ | fail); all_goals try (conv => whnf)
  refine LoopOb.mk (Y := Nat) (st := fun i => ⟨[(33, i64 i), (32, i64 (lns n.ln).length), (8, .ptr 2 0), (1, .num .u16 a), (2, .num .u8 b)], [.vec 5 (lzR n.ln i), .vec 8 (fls n.fl), .box [.psl 1 (strs n.nm), .vec 0, .vec 1]]⟩)
    (inv := fun i => i ≤ n.ln.length) (fun i => n.ln.length - i) 0 [3, 4, 5] (by omega) (by rw [lzR_zero]; (exact aL)) ?_
  rintro i hi
  have hzl := lzR_len n.ln i
  by_cases hil : i < n.ln.length
  · have hg := lzR_get hil
    have hst := lzR_set hil
    generalize n.ln.getD i ln0 = w at *
    (repeat' (conv => whnf); first | (refine aC (fun _ => ?_) (fun _ => ?_) <;> try (exfalso; omega)) | refine aS ?_ | refine aG ?_ | refine aD ?_ | refine aH ?_ | refine aP_Lby ?_ | refine aI ?_ | refine aJ ?_ | refine aW (.qs [0, 1, 2, 3, 4, 5, 6, 7, 8, 9, 10] (.l 11 [] .nil .no)) ?_ | refine aW (.qs [0, 1, 2, 3, 4, 5, 6, 7] (.l 8 [3] (.qs [9, 10] (.l 11 [] .nil .no)) .no)) ?_ | refine aW (.qs [0, 1, 2, 3, 4, 5, 6, 7, 8, 9, 10, 11, 12, 13, 14, 15, 16, 17, 18, 19, 20, 21] .nil) ?_ | refine ⟨i, rfl, by omega, ?_⟩ | refine ⟨_, hg, ?_⟩ | fail); all_goals try (conv => whnf)
    exact ⟨i + 1, [0, 1, 2], by omega, by omega, by rw [← hst]; (exact aL)⟩
  obtain rfl : i = n.ln.length := by omega
  rw [lzR_all]
  have hzl : (n.ln.map lnz).length = n.ln.length := List.length_map _
  obtain ⟨z, hz, hz1, hz2⟩ : ∃ z : Nat, 1 + a.tmod 1500 = z ∧ 1 ≤ z ∧ z ≤ 1500 := ⟨(1 + a.tmod 1500).toNat, by rw [Int.tmod_eq_emod_of_nonneg a0.1]; omega, by rw [Int.tmod_eq_emod_of_nonneg a0.1]; omega, by rw [Int.tmod_eq_emod_of_nonneg a0.1]; omega⟩
  have ham : 0 ≤ a.tmod 1500 ∧ a.tmod 1500 ≤ 1499 := by omega
  obtain ⟨t, rfl⟩ : ∃ t : Nat, b = t := ⟨b.toNat, by omega⟩
  obtain ⟨f, hf⟩ : ∃ f, n.fl = [f] := List.length_eq_one_iff.1 (by omega)
  rw [hf]
  (repeat' (conv => whnf); first | refine DrawOb.re [] (.qs [0, 1, 2, 3, 4, 5, 6, 7] (.l 8 [3] (.qs [9, 10] (.l 11 [] .nil .no)) .no)) (by decide +kernel) ?_ | (refine aC (fun _ => ?_) (fun _ => ?_) <;> try (exfalso; omega)) | refine aS ?_ | refine aG ?_ | refine aD ?_ | refine aH ?_ | refine aP_Lby ?_ | refine aI ?_ | refine aJ ?_ | refine aW (.qs [0, 1, 2, 3, 4, 5, 6, 7, 8, 9, 10] (.l 11 [] .nil .no)) ?_ | refine aW (.qs [0, 1, 2, 3, 4, 5, 6, 7] (.l 8 [3] (.qs [9, 10] (.l 11 [] .nil .no)) .no)) ?_ | refine aW (.qs [0, 1, 2, 3, 4, 5, 6, 7, 8, 9, 10, 11, 12, 13, 14, 15, 16, 17, 18, 19, 20, 21] .nil) ?_ | refine ⟨by decide, ?_⟩ | fail); all_goals try (conv => whnf)
  rw [hz]
  (repeat' (conv => whnf); first | refine ⟨0, rfl, Nat.one_pos, ?_⟩ | (refine aC (fun _ => ?_) (fun _ => ?_) <;> try (exfalso; omega)) | refine aS ?_ | refine aG ?_ | refine aD ?_ | refine aP_Lby ?_ | refine aI ?_ | refine aJ ?_ | refine aW (.qs [0, 1, 2, 3, 4, 5, 6, 7, 8, 9, 10] (.l 11 [] .nil .no)) ?_ | refine aW (.qs [0, 1, 2, 3, 4, 5, 6, 7] (.l 8 [3] (.qs [9, 10] (.l 11 [] .nil .no)) .no)) ?_ | refine aW (.qs [0, 1, 2, 3, 4, 5, 6, 7, 8, 9, 10, 11, 12, 13, 14, 15, 16, 17, 18, 19, 20, 21] .nil) ?_ | refine And.intro ⟨rfl, rfl⟩ ?_ | refine ⟨_, rfl, ?_⟩ | fail); all_goals try (conv => whnf)
  have hrow : ((fls [f]).set 0 [.str f.nm, .psl 1 (ints f.rt), i64 0, i64 f.lo, i64 f.hi, .psl 1 (ints f.v), i64 f.p, i64 f.q]).set 0 [.str f.nm, .psl 1 (ints f.rt), i64 0, i64 1, i64 z, .psl 1 (ints f.v), i64 f.p, i64 f.q] = fls [onF z f] := rfl
  have hpk : [[i64 0, i64 (t : Int), i64 (z : Int)]] = pks [⟨0, t, z⟩] := rfl
  rw [hrow, hpk]
  have hgs : ∀ f ∈ n.fl, FzG (onF z) f := fun f _ => onF_g ⟨hz1, hz2⟩ f
  have hn1f : (fzN n (onF z)).fl = [onF z f] := by show n.fl.map (onF z) = _; rw [hf]; rfl
  have hn1l : (fzN n (onF z)).ln.length = n.ln.length := List.length_map _
  have hKb : SkP (fzN n (onF z)) [⟨0, t, z⟩] := by
    refine ⟨fz_chk hchk hgs, by simp, fun i hi => ?_, fun i hi => ?_⟩
    · have : i = 0 := by simpa using hi
      subst this
      unfold bdP pfl
      rw [hn1f]
      simp only [List.getD_cons_zero, List.length_singleton, Int.toNat_zero]
      omega
    · have : i = 0 := by simpa using hi
      subst this
      simp only [lst, List.getD_cons_zero]; omega
  have hfF := hG.g.fg f (by rw [hf]; simp)
  have hr3 := hfF.r1
  have hZ : ∀ l, l < (fzN n (onF z)).ln.length → (liN (fzN n (onF z))).C l = fifoC ∧ 4 ≤ (liN (fzN n (onF z))).c l := fun l hl => by
    rw [hn1l] at hl
    obtain ⟨e1, e2, e3⟩ := fz_fifo (g := onF z) hchk hl
    have := (hG.lg _ (Go.Np.getD_in (d := ln0) hl)).p.c4
    exact ⟨e1, by rw [e3]; omega⟩
  have hby := Go.Mc.bytes hKb (by omega) ⟨hz1, hz2⟩ hZ (by rw [hn1f]; exact hr3.2)
  have hlnn := fun k hk => hKb.lnn (i := 0) (k := k) (by simp) hk
  have cA := Run_ok (fzN n (onF z)) (fz_nl hn hgs) [⟨0, t, z⟩] hKb 2000 (by omega)
  have hsA := trR_sh (F := toF (fzN n (onF z)) [⟨0, t, z⟩]) (Z := liN (fzN n (onF z))) (N := 2000) hKb.rts
  have hgA := fun k => trR_get (F := toF (fzN n (onF z)) [⟨0, t, z⟩]) (Z := liN (fzN n (onF z))) (N := 2000) (i := 0) (k := k) (by exact Nat.one_pos)
  have hrt0 : ((toF (fzN n (onF z)) [⟨0, t, z⟩]).rt 0) = f.rt.map Int.toNat := by
    show (pfl (fzN n (onF z)) ⟨0, t, z⟩).rt.map Int.toNat = _
    unfold pfl; rw [hn1f]; rfl
  have hpf : (pfl (fzN n (onF z)) ([⟨0, (t : Int), (z : Int)⟩].getD 0 pk0)).rt = f.rt := by
    unfold pfl; rw [hn1f]; rfl
  rw [hpf] at hlnn
  have hgd : ((fzN n (onF z)).fl.getD 0 fl0).rt = f.rt := by rw [hn1f]; rfl
  rw [hgd] at hby
  generalize trR (toF (fzN n (onF z)) [⟨0, t, z⟩]) (liN (fzN n (onF z))) 2000 = A at *
  have hlA : (A.map ints).length = 1 := by rw [List.length_map]; exact hsA.l
  refine .mk [.fz 0, .fz 1, .fz 3] ?_
  (repeat' (conv => whnf); first | (refine aC (fun _ => ?_) (fun _ => ?_) <;> try (exfalso; omega)) | refine aS ?_ | refine aG ?_ | refine aD ?_ | refine aH ?_ | refine aP_Lby ?_ | refine aI ?_ | refine aJ ?_ | refine aW (.qs [0, 1, 2, 3, 4, 5, 6, 7, 8, 9, 10] (.l 11 [] .nil .no)) ?_ | refine aW (.qs [0, 1, 2, 3, 4, 5, 6, 7] (.l 8 [3] (.qs [9, 10] (.l 11 [] .nil .no)) .no)) ?_ | refine aW (.qs [0, 1, 2, 3, 4, 5, 6, 7, 8, 9, 10, 11, 12, 13, 14, 15, 16, 17, 18, 19, 20, 21] .nil) ?_ | fail); all_goals try (conv => whnf)
  refine CallOb.mk [] cA rfl ⟨Imp.agg ⟨Imp.refl _, Imp.pslr (lnz_imp _), Imp.psl (by rw [hn1f]), trivial⟩, Imp.refl _, Imp.refl _, trivial⟩ rfl rfl ?_
  rintro _ _ ⟨rfl, rfl⟩
  have hAl : A.length = 1 := hsA.l
  have htA := trs_len A
  have htA2 : (List.map (fun m => [SV.psl 1 m]) (List.map ints A)).length = 1 := by rw [List.length_map]; exact hlA
  have gA := trs_get (ms := A) (i := 0) (by omega)
  have rA : (A.getD 0 []).length = f.rt.length := by rw [hsA.r 0 Nat.one_pos, hrt0, List.length_map]
  have gF : (fls [onF z f])[0]? = some (flv (onF z f)) := rfl
  have lF : (fls [onF z f]).length = 1 := rfl
  have hrl : (ints (onF z f).rt).length = f.rt.length := ints_len f.rt
  have hal := ints_len (A.getD 0 [])
  (repeat' (conv => whnf); first | refine ⟨0, _, rfl, gF, ?_⟩ | refine ⟨0, _, rfl, gA, ?_⟩ | refine DrawOb.mk [.fm 4] (.qs [0, 1, 2, 3, 4, 5, 6, 7, 8, 9, 10, 11, 12, 13, 14, 15, 16, 17, 18, 19, 20, 21] .nil) (by decide +kernel) ?_ | (refine aC (fun _ => ?_) (fun _ => ?_) <;> try (exfalso; omega)) | refine aS ?_ | refine aG ?_ | refine aD ?_ | refine aH ?_ | refine aP_Lby ?_ | refine aI ?_ | refine aJ ?_ | refine aW (.qs [0, 1, 2, 3, 4, 5, 6, 7, 8, 9, 10] (.l 11 [] .nil .no)) ?_ | refine aW (.qs [0, 1, 2, 3, 4, 5, 6, 7] (.l 8 [3] (.qs [9, 10] (.l 11 [] .nil .no)) .no)) ?_ | refine aW (.qs [0, 1, 2, 3, 4, 5, 6, 7, 8, 9, 10, 11, 12, 13, 14, 15, 16, 17, 18, 19, 20, 21] .nil) ?_ | fail); all_goals try (conv => whnf)
  refine LoopOb.mk (Y := Nat) (st := fun h => ⟨[(102, i64 h), (101, i64 (ints f.rt).length), (100, .psl 1 (ints f.rt)), (13, i64 (atA t (fun j => kc z ((liN (fzN n (onF z))).c (f.rt.getD j 0).toNat)) h : Nat)), (11, .ptr 1 0), (10, i64 z), (8, .ptr 0 0)], [.box [.psl 1 (strs n.nm), .psl 5 (n.ln.map lnz), .psl 8 (fls [onF z f])], .box [.psl 1 (trs A)]]⟩)
    (inv := fun h => h ≤ f.rt.length) (fun h => f.rt.length - h) 0 [2, 6] (by omega) (by (exact aL)) ?_
  have hrl' := ints_len f.rt
  rintro h hh
  by_cases hhl : h < f.rt.length
  · have hk : h < ((toF (fzN n (onF z)) [⟨0, t, z⟩]).rt 0).length := by rw [hrt0, List.length_map]; exact hhl
    obtain ⟨e1, e2⟩ := hlnn h hk
    rw [hn1l] at e2
    have gv := ints_get (l := f.rt) (j := h) hhl
    have gz : (n.ln.map lnz)[(f.rt.getD h 0).toNat]? = some (lnz (n.ln.getD (f.rt.getD h 0).toNat ln0)) := by
      have : (f.rt.getD h 0).toNat < n.ln.length := by omega
      rw [List.getElem?_map, List.getElem?_eq_getElem this, List.getD_eq_getElem?_getD (l := n.ln), List.getElem?_eq_getElem this]; rfl
    obtain ⟨_, _, ez⟩ := fz_fifo (g := onF z) hchk (l := (f.rt.getD h 0).toNat) (by omega)
    have hc4 := (hG.lg _ (Go.Np.getD_in (d := ln0) (i := (f.rt.getD h 0).toNat) (by omega))).p.c4
    have hce := chk_ln hchk (j := (f.rt.getD h 0).toNat) (by omega)
    obtain ⟨b1, b2⟩ := hby h hhl
    have vA := hgA h hk
    have iA := ints_get (l := A.getD 0 []) (j := h) (by omega)
    rw [vA, b1] at iA
    have eD := atA_dn t (fun j => kc z ((liN (fzN n (onF z))).c (f.rt.getD j 0).toNat)) h
    have eN : atA t (fun j => kc z ((liN (fzN n (onF z))).c (f.rt.getD j 0).toNat)) (h + 1) = dnA t (fun j => kc z ((liN (fzN n (onF z))).c (f.rt.getD j 0).toNat)) h + 1 := rfl
    rw [ez] at eD
    have hc4k : (n.ln.getD (f.rt.getD h 0).toNat ln0).c ≤ 4000 := by
      unfold lnErr at hce
      split at hce
      · cases hce
      split at hce
      · cases hce
      omega
    generalize dnA t (fun j => kc z ((liN (fzN n (onF z))).c (f.rt.getD j 0).toNat)) h = dd at *
    generalize atA t (fun j => kc z ((liN (fzN n (onF z))).c (f.rt.getD j 0).toNat)) h = aa at *
    generalize hw : n.ln.getD (f.rt.getD h 0).toNat ln0 = w at *
    have hvl : 0 ≤ f.rt.getD h 0 ∧ f.rt.getD h 0 < n.ln.length := by omega
    generalize hvv : f.rt.getD h 0 = v at *
    obtain ⟨cn, hcn⟩ : ∃ cn : Nat, w.c = cn := ⟨w.c.toNat, by omega⟩
    have hkc := kc_ok (z := z) (c := cn) hz1 (by omega)
    have htq : ((z : Int) + w.c - 1).tdiv w.c = (kc z cn : Int) + 1 := by
      rw [hcn, show (z : Int) + (cn : Int) - 1 = ((z + cn - 1 : Nat) : Int) by omega, ← Int.ofNat_tdiv]
      have h1 : 1 ≤ (z + cn - 1) / cn := by rw [Nat.le_div_iff_mul_le (by omega)]; omega
      unfold kc
      omega
    rw [hcn, Int.toNat_natCast] at eD
    (repeat' (conv => whnf); first | refine ⟨h, _, rfl, iA, ?_⟩ | refine ⟨0, _, rfl, gA, ?_⟩ | refine ⟨v.toNat, _, by omega, gz, ?_⟩ | refine ⟨h, _, rfl, gv, ?_⟩ | (refine aC (fun _ => ?_) (fun _ => ?_) <;> try (exfalso; omega)) | refine aS ?_ | refine aG ?_ | refine aD ?_ | refine aH ?_ | refine aP_Lby ?_ | refine aI ?_ | refine aJ ?_ | refine aW (.qs [0, 1, 2, 3, 4, 5, 6, 7, 8, 9, 10] (.l 11 [] .nil .no)) ?_ | refine aW (.qs [0, 1, 2, 3, 4, 5, 6, 7] (.l 8 [3] (.qs [9, 10] (.l 11 [] .nil .no)) .no)) ?_ | refine aW (.qs [0, 1, 2, 3, 4, 5, 6, 7, 8, 9, 10, 11, 12, 13, 14, 15, 16, 17, 18, 19, 20, 21] .nil) ?_ | fail); all_goals try (conv => whnf)
    refine ⟨by omega, ?_⟩
    have hk375 := kc_le (z := z) (c := cn) hz2 (by omega)
    rw [htq]
    generalize kc z cn = kk at *
    (repeat' (conv => whnf); first | refine ⟨h, _, rfl, iA, ?_⟩ | refine ⟨0, _, rfl, gA, ?_⟩ | (refine aC (fun _ => ?_) (fun _ => ?_) <;> try (exfalso; omega)) | refine aS ?_ | refine aG ?_ | refine aD ?_ | refine aH ?_ | refine aP_Lby ?_ | refine aI ?_ | refine aJ ?_ | refine aW (.qs [0, 1, 2, 3, 4, 5, 6, 7, 8, 9, 10] (.l 11 [] .nil .no)) ?_ | refine aW (.qs [0, 1, 2, 3, 4, 5, 6, 7] (.l 8 [3] (.qs [9, 10] (.l 11 [] .nil .no)) .no)) ?_ | refine aW (.qs [0, 1, 2, 3, 4, 5, 6, 7, 8, 9, 10, 11, 12, 13, 14, 15, 16, 17, 18, 19, 20, 21] .nil) ?_ | fail); all_goals try (conv => whnf)
    exact ⟨h + 1, [0, 1], by omega, by omega, by rw [eN]; (exact aL)⟩
  · obtain rfl : h = f.rt.length := by omega
    (repeat' (conv => whnf); first | (refine aC (fun _ => ?_) (fun _ => ?_) <;> try (exfalso; omega)) | refine aS ?_ | refine aG ?_ | refine aD ?_ | refine aH ?_ | refine aP_Lby ?_ | refine aI ?_ | refine aJ ?_ | refine aW (.qs [0, 1, 2, 3, 4, 5, 6, 7, 8, 9, 10] (.l 11 [] .nil .no)) ?_ | refine aW (.qs [0, 1, 2, 3, 4, 5, 6, 7] (.l 8 [3] (.qs [9, 10] (.l 11 [] .nil .no)) .no)) ?_ | refine aW (.qs [0, 1, 2, 3, 4, 5, 6, 7, 8, 9, 10, 11, 12, 13, 14, 15, 16, 17, 18, 19, 20, 21] .nil) ?_ | (refine aK [] (sane_ok) ?_) | fail); all_goals try (conv => whnf)
    rfl
end Go.Proofs.YtaomhdljcdadaaaGreat
end
