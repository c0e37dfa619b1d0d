/- Lemmas that the proofs of this seat use (O8). Conditions: those that stand in each theorem. -/
import Derived.Test.YtaomhdljcdadaaaGreatMob
import Derived.Test.YtaomhdljcdadaaaGreatQ2
import Derived.Test.YtaomhdljcdadaaaGreatSd1
import Derived.Test.YtaomhdljcdadaaaGreatNw
set_option linter.unusedVariables false
set_option linter.unusedSimpArgs false
namespace Go.Proofs.YtaomhdljcdadaaaGreat
open Go.Sx Go.Pk Go.Mc Go.Np
set_option maxRecDepth 4000
set_option maxHeartbeats 2000000
theorem delO_mon {n : Nt} {p : List Pk} (h : SkP n p) {ms : List (List Int)} (hM : Mon (toF n p) (dR ms)) {i k : Nat} (hi : i < p.length) (hk : k < (pfl n (p.getD i pk0)).rt.length) :
  delO n p (dR ms) i k = if 0 ≤ dR ms i k then some (dR ms i k - if k = 0 then (p.getD i pk0).t else dR ms i (k - 1) + 1) else none := by
 obtain ⟨f1, f2, _⟩ := h.fl hi
 have hl : k < ((toF n p).rt i).length := by show k < ((pfl n (p.getD i pk0)).rt.map Int.toNat).length; rw [List.length_map]; exact hk
 have hh : ¬((k : Int) < 0 ∨ hps n p i ≤ k) := by
  unfold hps
  rw [if_neg (by simp only [Int.toNat_natCast]; omega)]
  simp only [Int.toNat_natCast]; omega
 have ha : arO n p (dR ms) i k = if k = 0 then some (p.getD i pk0).t else if 0 ≤ dR ms i (k - 1) then some (dR ms i (k - 1) + 1) else none := by
  unfold arO
  rw [if_neg hh]
  simp only [Int.toNat_natCast]
  exact arr_mon hM hi hl
 have hd : dnO (dR ms) i k = if 0 ≤ dR ms i k then some (dR ms i k) else none := by
  unfold dnO
  simp only [Int.toNat_natCast]
  by_cases h0 : 0 ≤ dR ms i k
  ·rw [if_pos h0, if_neg (by omega)]
  ·rw [if_neg h0, if_pos (.inr (.inr (by omega)))]
 unfold delO
 rw [ha, hd]
 by_cases hk0 : k = 0
 ·simp only [hk0, if_true]
  by_cases h0 : 0 ≤ dR ms i 0
  ·rw [if_pos h0, if_pos h0]
  ·rw [if_neg h0, if_neg h0]
 ·simp only [hk0, if_false]
  by_cases h0 : 0 ≤ dR ms i k
  ·have := (hM.lt hi hl h0 (k - 1) (by omega)).1
   rw [if_pos this, if_pos h0, if_pos h0]
  ·rw [if_neg h0, if_neg h0]
   split <;> rfl
theorem worF_ge {n : Nt} {p : List Pk} {D : Tp} {f : Int} {i : Nat} {y : Int} (he : enO n p D i = some y) (hf : (p.getD i pk0).f = f) : ∀ {m : Nat}, i < m → (worF n p D f m).b = true ∧ y ≤ (worF n p D f m).d
  | 0, h => by omega
  | m + 1, h => by
    by_cases e : i = m
    · subst e
      rw [worF, he]
      dsimp only
      by_cases c : (p.getD i pk0).f = f ∧ ((worF n p D f i).b = false ∨ (worF n p D f i).d < y)
      · rw [if_pos c]; exact ⟨rfl, Int.le_refl _⟩
      · rw [if_neg c]
        cases hb : (worF n p D f i).b with
        | false => exact absurd ⟨hf, .inl hb⟩ c
        | true => exact ⟨rfl, by have := fun h2 => c ⟨hf, .inr h2⟩; omega⟩
    · obtain ⟨h1, h2⟩ := worF_ge he hf (m := m) (by omega)
      rw [worF]
      cases enO n p D m with
      | none => exact ⟨h1, h2⟩
      | some d =>
        dsimp only
        split
        · rename_i c
          refine ⟨rfl, ?_⟩
          have := c.2.resolve_left (by rw [h1]; simp)
          dsimp only; omega
        · exact ⟨h1, h2⟩
theorem trR_mon {F : Tf} (hR : Rts F) (Z : Li) (N : Nat) : Mon F (dR (trR F Z N)) := fun i k hi hk h0 => by
 rw [trR_at hi hk] at h0 ⊢
 rw [trR_at hi (by omega)]
 exact tr_mon hR Z N i k hi hk h0
theorem NetG.szs {ml mf k : Nat} {n : Nt} (h : NetG ml mf k n) : ∀ f ∈ n.fl, 1 ≤ f.lo ∧ f.lo ≤ f.hi ∧ f.hi ≤ 1500 := fun f hf => by
 have := h.g.fg f hf
 have h1 := this.lo
 have h2 := this.hi
 omega
def accD (D : Tp) (i : Nat) (t : Int) (k : Nat) : Int := if k = 0 then 0 else D i (k - 1) - t - ((k : Int) - 1)
theorem aP_O8 {A B K : Prop} (k : K) (a : A := by (simp only [zA, zT, zD, zC, zN, ints_len, zR, Go.Cv.vals_len]; omega)) (b : B := by (simp only [zA, zT, zD, zC, zN, ints_len, zR, Go.Cv.vals_len]; omega)) : (A ∧ B) ∧ K := ⟨⟨a, b⟩, k⟩
theorem z2_O8 {G H : Prop} (k : H) (h : H → G := by first | exact fun r => aS r | exact fun r => aG r | exact fun r => aD r | exact fun r => aP_O8 r | exact fun r => aI r | exact fun r => aJ r | exact fun r => aW (.qs [0, 1, 2, 3, 4, 5, 6, 7, 8, 9, 10] .nil) r | exact fun r => aW (.qs [0, 1, 2, 3, 4, 5, 6, 7] (.l 8 [] (.qs [9, 10, 11, 12, 13, 14, 15] .nil) .no)) r) : G := h k
theorem z1_O8 {G H : Prop} (k : H) (h : H → G := by first | exact fun r => aS r | exact fun r => aG r | exact fun r => aD r | exact fun r => aH r | exact fun r => aP_O8 r | exact fun r => aI r | exact fun r => aJ r | exact fun r => aW (.qs [0, 1, 2, 3, 4, 5, 6, 7, 8, 9, 10] .nil) r | exact fun r => aW (.qs [0, 1, 2, 3, 4, 5, 6, 7] (.l 8 [] (.qs [9, 10, 11, 12, 13, 14, 15] .nil) .no)) r) : G := h k
theorem Adds_ok (l : List Int) (hl : l.length ≤ 9223372036854775807) :
  Ctr Tryz.prog 3 [.psl 1 (ints l)] [] (fun r o => r = .bl true) := by
 refine fn_intro (E := env 0) tys_ok rfl rfl rfl Tryz.func3 (by kernel_rfl) rfl (by kernel_rfl) ?_
 have hL : (l.take 2000).length ≤ 2000 := by rw [List.length_take]; omega
 (repeat' (conv => whnf); first | (refine aC (fun _ => ?_) (fun _ => ?_) <;> try (exfalso; omega)) | refine z1_O8 ?_ | (refine aK [] (sane36_ok) ?_) | (refine aK [] (New_ok l hl) ?_) | fail); all_goals try (conv => whnf)
 ·rfl
 refine aM [0] (Net_ok _ 0 hL (by omega) 3 4 (by omega) (by omega)) rfl rfl ?_
 rintro _ _ ⟨⟨n, k, p1⟩, ⟨hG, hp1⟩, rfl, rfl⟩
 dsimp only at hG hp1 ⊢
 have hn := hG.nl
 have hchk := hG.g.chk
 have hmf := hG.mf
 have hsz := hG.szs
 (repeat' (conv => whnf); first | (refine aC (fun _ => ?_) (fun _ => ?_) <;> try (exfalso; omega)) | refine z1_O8 ?_ | fail); all_goals try (conv => whnf)
 refine aM [0] (Sends_ok _ p1 hL hp1 n hn (by omega) hsz 14 (by omega)) rfl rfl ?_
 rintro _ _ ⟨⟨p, p2⟩, ⟨hS, hp14, hp2⟩, rfl, rfl⟩
 dsimp only at hS hp14 hp2 ⊢
 have hK := hS.sk hchk (by omega)
 have hpl := pks_len p
 have hfl := fll n.fl
 (repeat' (conv => whnf); first | (refine aC (fun _ => ?_) (fun _ => ?_) <;> try (exfalso; omega)) | refine z2_O8 ?_ | fail); all_goals try (conv => whnf)
 refine .mk [.fz 2] ?_
 (repeat' (conv => whnf); first | (refine aC (fun _ => ?_) (fun _ => ?_) <;> try (exfalso; omega)) | refine z1_O8 ?_ | fail); all_goals try (conv => whnf)
 refine aK [] (RRun_ok n hn p hK 1000 (by omega)) ?_
 have hsA := trR_sh (F := toF n p) (Z := liN n) (N := 1000) hK.rts
 have hMA := MsL.of hK (by omega) hsA
 have hMo := trR_mon (F := toF n p) hK.rts (liN n) 1000
 generalize trR (toF n p) (liN n) 1000 = A at *
 (repeat' (conv => whnf); first | (refine aC (fun _ => ?_) (fun _ => ?_) <;> try (exfalso; omega)) | refine z1_O8 ?_ | fail); all_goals try (conv => whnf)
 refine LoopOb.mk (Y := Nat) (st := fun i => ⟨[(41, i64 i), (40, i64 (pks p).length), (6, .ptr 1 0), (5, .psl 3 (pks p)), (4, .ptr 0 0)], [nbx n, .box [.psl 1 (trs A)]]⟩)
  (inv := fun i => i ≤ p.length) (fun i => p.length - i) 0 [1, 3] (by omega) (by (exact aL)) ?_
 rintro i hi
 by_cases hip : i < p.length
 ·have hg := pks_get hip
  obtain ⟨f1, f2, t1, t2, hRt, _⟩ := hK.fl hip
  have hfg := flg (l := n.fl) (i := (p.getD i pk0).f.toNat) (by omega)
  have r4 := hRt.l2
  have r1 := hRt.l1
  have hrl := ints_len (pfl n (p.getD i pk0)).rt
  have hrt : ((toF n p).rt i).length = (pfl n (p.getD i pk0)).rt.length := List.length_map _
  have cD := fun k : Nat => ODel_ok n hn p (by omega) (fun i hi => by have := hK.fl hi; omega) A hMA i k
  have hdm := fun k hk => delO_mon hK hMo hip (k := k) hk
  have hbd := fun k (hk : k < (pfl n (p.getD i pk0)).rt.length) => hsA.b i k hip (by rw [hrt]; exact hk)
  have hml := fun k (hk : k < (pfl n (p.getD i pk0)).rt.length) h0 => hMo.lt hip (h := k) (by rw [hrt]; exact hk) h0
  have cE := OEnd_ok n hn p hK A hMA i
  have hen := enO_in hK (D := dR A) hip
  have cW := OWor_ok n hn p hK A hMA (p.getD i pk0).f
  have hwg := fun y he => worF_ge (n := n) (p := p) (D := dR A) (i := i) (y := y) he rfl hip
  generalize hm : (pfl n (p.getD i pk0)).rt.length = m at *
  have hfg2 : (fls n.fl)[(p.getD i pk0).f.toNat]? = some (flv (pfl n (p.getD i pk0))) := hfg
  clear hfg
  generalize hfw : pfl n (p.getD i pk0) = fw at *
  generalize worF n p (dR A) (p.getD i pk0).f p.length = W at *
  clear hfw
  generalize p.getD i pk0 = x at *
  have hrl2 := ints_len fw.rt
  (repeat' (conv => whnf); first | refine ⟨x.f.toNat, _, by omega, hfg2, ?_⟩ | refine ⟨i, _, rfl, hg, ?_⟩ | (refine aC (fun _ => ?_) (fun _ => ?_) <;> try (exfalso; omega)) | refine z1_O8 ?_ | fail); all_goals try (conv => whnf)
  refine LoopOb.mk (Y := Nat × Bool × Int) (st := fun y => ⟨[(59, i64 y.1), (58, i64 (ints fw.rt).length), (11, .bl y.2.1), (10, i64 y.2.2), (9, .psl 1 (ints fw.rt)), (8, i64 i), (41, i64 i), (40, i64 (pks p).length), (6, .ptr 1 0), (5, .psl 3 (pks p)), (4, .ptr 0 0)], [nbx n, .box [.psl 1 (trs A)]]⟩)
   (inv := fun y => y.1 ≤ m ∧ (y.2.1 = true ↔ ∀ k, k < y.1 → 0 ≤ dR A i k) ∧ (y.2.1 = true → y.2.2 = (m : Int) - 1 + accD (dR A) i x.t y.1) ∧ -10000 * ((y.1 : Int) + 1) ≤ y.2.2 ∧ y.2.2 ≤ 10000 * ((y.1 : Int) + 1)) (fun y => m - y.1) (0, true, (m : Int) - 1) [0, 1]
   ⟨Nat.zero_le _, ⟨fun _ k hk => by dsimp only at hk; omega, fun _ => rfl⟩, fun _ => by simp [accD], by dsimp only; omega, by dsimp only; omega⟩ (by dsimp only; rw [← hm, ← hrl2]; (exact aL)) ?_
  rintro ⟨k, b, sm⟩ ⟨hk, hb, hs, hb1, hb2⟩
  dsimp only at hk hb hs hb1 hb2 ⊢
  by_cases hkm : k < m
  ·have hdk := hdm k hkm
   have hbk := hbd k hkm
   have hbk1 : 0 < k → -1 ≤ dR A i (k - 1) ∧ dR A i (k - 1) < 1000 := fun h0 => hbd (k - 1) (by omega)
   have cDk := cD k
   by_cases h0 : 0 ≤ dR A i k
   ·rw [if_pos h0] at hdk
    have hac : accD (dR A) i x.t (k + 1) = accD (dR A) i x.t k + (dR A i k - if k = 0 then x.t else dR A i (k - 1) + 1) := by
     unfold accD
     rw [if_neg (by omega), Nat.add_sub_cancel]
     by_cases hk0 : k = 0
     ·rw [if_pos hk0, if_pos hk0, hk0]; omega
     ·rw [if_neg hk0, if_neg hk0]; omega
    have hbx : -5000 ≤ (dR A i k - if k = 0 then x.t else dR A i (k - 1) + 1) ∧ (dR A i k - if k = 0 then x.t else dR A i (k - 1) + 1) ≤ 5000 := by
     by_cases hk0 : k = 0
     ·rw [if_pos hk0]; omega
     ·rw [if_neg hk0]; have := hbk1 (by omega); omega
    rw [hdk] at cDk
    simp only [arrT] at cDk
    have hb' : b = true ↔ ∀ k', k' < k + 1 → 0 ≤ dR A i k' := ⟨fun e k' hk' => by
     by_cases e2 : k' = k
     ·subst e2; exact h0
     ·exact hb.1 e k' (by omega), fun e => hb.2 fun k' hk' => e k' (by omega)⟩
    generalize (dR A i k - if k = 0 then x.t else dR A i (k - 1) + 1) = v at *
    cases b
    ·(repeat' (conv => whnf); first | (refine aC (fun _ => ?_) (fun _ => ?_) <;> try (exfalso; omega)) | refine z1_O8 ?_ | (refine aK [] cDk ?_) | fail); all_goals try (conv => whnf)
     exact ⟨(k + 1, false, sm + v), [0, 1], ⟨by dsimp only; omega, hb', fun e => (by cases e), by dsimp only; omega, by dsimp only; omega⟩, by dsimp only; omega, by (exact aL)⟩
    ·have hs1 := hs rfl
     (repeat' (conv => whnf); first | (refine aC (fun _ => ?_) (fun _ => ?_) <;> try (exfalso; omega)) | refine z1_O8 ?_ | (refine aK [] cDk ?_) | fail); all_goals try (conv => whnf)
     exact ⟨(k + 1, true, sm + v), [0, 1], ⟨by dsimp only; omega, hb', fun _ => by dsimp only; rw [hac, hs1]; omega, by dsimp only; omega, by dsimp only; omega⟩, by dsimp only; omega, by (exact aL)⟩
   ·rw [if_neg h0] at hdk
    rw [hdk] at cDk
    simp only [arrT] at cDk
    have hb' : false = true ↔ ∀ k', k' < k + 1 → 0 ≤ dR A i k' := ⟨fun e => (by cases e), fun e => absurd (e k (by omega)) h0⟩
    cases b
    ·(repeat' (conv => whnf); first | (refine aC (fun _ => ?_) (fun _ => ?_) <;> try (exfalso; omega)) | refine z1_O8 ?_ | (refine aK [] cDk ?_) | fail); all_goals try (conv => whnf)
     exact ⟨(k + 1, false, sm), [0, 1], ⟨by dsimp only; omega, hb', fun e => (by cases e), by dsimp only; omega, by dsimp only; omega⟩, by dsimp only; omega, by dsimp only; rw [show sm = sm + 0 by omega]; (exact aL)⟩
    ·(repeat' (conv => whnf); first | (refine aC (fun _ => ?_) (fun _ => ?_) <;> try (exfalso; omega)) | refine z1_O8 ?_ | (refine aK [] cDk ?_) | fail); all_goals try (conv => whnf)
     exact ⟨(k + 1, false, sm), [0, 1], ⟨by dsimp only; omega, hb', fun e => (by cases e), by dsimp only; omega, by dsimp only; omega⟩, by dsimp only; omega, by dsimp only; rw [show sm = sm + 0 by omega]; (exact aL)⟩
  ·obtain rfl : k = m := by omega
   have hdn : dnO (dR A) i ((k : Int) - 1) = if 0 ≤ dR A i (k - 1) then some (dR A i (k - 1)) else none := by
    unfold dnO
    rw [Int.toNat_natCast, show ((k : Int) - 1).toNat = k - 1 by omega]
    by_cases h0 : 0 ≤ dR A i (k - 1)
    ·rw [if_neg (by omega), if_pos h0]
    ·rw [if_pos (.inr (.inr (by omega))), if_neg h0]
   have hb1' := hbd (k - 1) (by omega)
   obtain ⟨wa, wd, wb⟩ := W
   dsimp only [wrV] at cW
   cases b
   ·have hneg : ¬0 ≤ dR A i (k - 1) := fun h0 => by
     have : false = true := hb.2 fun k' hk' => by
      by_cases e : k' = k - 1
      ·rw [e]; exact h0
      ·exact (hml (k - 1) (by omega) h0 k' (by omega)).1
     cases this
    rw [hdn, if_neg hneg] at hen
    rw [hen] at cE
    simp only [arrT] at cE
    (repeat' (conv => whnf); first | refine ⟨i, _, rfl, hg, ?_⟩ | (refine aC (fun _ => ?_) (fun _ => ?_) <;> try (exfalso; omega)) | refine z1_O8 ?_ | (refine aK [] cE ?_) | (refine aK [] cW ?_) | fail); all_goals try (conv => whnf)
    all_goals first
     |exact ⟨i + 1, [0, 1], by omega, by omega, by (exact aL)⟩
     |exact absurd Iff.rfl (by assumption)
     |(exfalso; omega)
     |trace_state
   ·have hpos : 0 ≤ dR A i (k - 1) := hb.1 rfl (k - 1) (by omega)
    have hs1 := hs rfl
    unfold accD at hs1
    rw [if_neg (by omega)] at hs1
    rw [hdn, if_pos hpos] at hen
    rw [hen] at cE
    simp only [arrT] at cE
    obtain ⟨w1, w2⟩ := hwg _ hen
    dsimp only at w1 w2
    subst w1
    (repeat' (conv => whnf); first | refine ⟨i, _, rfl, hg, ?_⟩ | (refine aC (fun _ => ?_) (fun _ => ?_) <;> try (exfalso; omega)) | refine z1_O8 ?_ | (refine aK [] cE ?_) | (refine aK [] cW ?_) | fail); all_goals try (conv => whnf)
    all_goals first
     |exact ⟨i + 1, [0, 1], by omega, by omega, by (exact aL)⟩
     |exact absurd Iff.rfl (by assumption)
     |(exfalso; omega)
     |trace_state
 ·obtain rfl : i = p.length := by omega
  (repeat' (conv => whnf); first | (refine aC (fun _ => ?_) (fun _ => ?_) <;> try (exfalso; omega)) | refine z1_O8 ?_ | (refine aK [] (sane36_ok) ?_) | fail); all_goals try (conv => whnf)
  rfl
end Go.Proofs.YtaomhdljcdadaaaGreat
