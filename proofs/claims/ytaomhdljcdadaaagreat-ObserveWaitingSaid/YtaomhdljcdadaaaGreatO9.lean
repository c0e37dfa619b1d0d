/- Lemmas that the proofs of this seat use (O9). Conditions: those that stand in each theorem. -/
import Derived.Test.YtaomhdljcdadaaaGreatNw
import Derived.Test.YtaomhdljcdadaaaGreatS9
set_option linter.unusedVariables false
set_option linter.unusedSimpArgs false
namespace Go.Proofs.YtaomhdljcdadaaaGreat
open Go.Sx Go.Pk Go.Mc Go.Np
set_option maxRecDepth 4000
set_option maxHeartbeats 2000000
abbrev hopN (n : Nt) (p : List Pk) (l : Int) (j : Nat) : Nat := (hop n (p.getD j pk0).f l).toNat
def gW (n : Nt) (p : List Pk) (D : Tp) (l c t : Int) (x : Wt) : Int := if (pfl n (p.getD x.i pk0)).cl = c ∧ x.a ≤ t ∧ t ≤ D x.i (hopN n p l x.i) then (p.getD x.i pk0).s else 0
theorem waiF_sum {n : Nt} {p : List Pk} (h : SkP n p) {D : Tp} {l : Nat} {c t : Int} (hD : ∀ x ∈ qu (toF n p) D l, (pfl n (p.getD x.i pk0)).cl = c → 0 ≤ D x.i (hopN n p l x.i)) :
    ∀ i, i ≤ p.length → waiF n p D l c t i = wsum (gW n p D l c t) (quL n p D l i)
  | 0, _ => rfl
  | i + 1, hi => by
    have ih := waiF_sum h hD (t := t) i (by omega)
    have hil : i < p.length := by omega
    have ho := arO_arL h.rt (D := D) (l := (l : Int)) hil
    have hh := hop_hp h.rt (l := l) hil
    rw [quL]
    cases ha : arL n p D l i with
    | none =>
      rw [ha] at ho
      rw [waiF_no fun ⟨a, e, _⟩ => (by rw [ho] at e; cases e), ih]
    | some a =>
      rw [ha] at ho
      have ha2 := ha
      unfold arL at ha2
      rw [if_neg (by omega), Int.toNat_natCast] at ha2
      cases hp' : hp (toF n p) l i with
      | none => rw [hp'] at ha2; cases ha2
      | some k =>
        rw [hp'] at ha2 hh
        dsimp only at ha2 hh
        have hq : (⟨a, (p.getD i pk0).f, i⟩ : Wt) ∈ qu (toF n p) D l := ((qu_ok (toF n p) D l).m _).2 ⟨hil, ⟨k, hp', ha2⟩, rfl⟩
        have hd := hD _ hq
        dsimp only at hd
        unfold hopN at hd
        dsimp only
        rw [wsum_ins, ← ih]
        have hkn : (k : Int).toNat = k := Int.toNat_natCast _
        rw [hh, hkn] at hd
        by_cases hw : (pfl n (p.getD i pk0)).cl = c ∧ a ≤ t ∧ t ≤ D i k
        · rw [waiF_yes ⟨a, ho, hw.2.1, hw.1, fun d e => by
            unfold dnO at e
            split at e
            · cases e
            · injection e with e
              rw [hh, Int.toNat_natCast, hkn] at e
              omega⟩]
          have : gW n p D l c t ⟨a, (p.getD i pk0).f, i⟩ = (p.getD i pk0).s := if_pos ⟨hw.1, hw.2.1, by unfold hopN; rw [hh, hkn]; exact hw.2.2⟩
          rw [this, Int.add_comm]
        · rw [waiF_no fun ⟨a', e, h2, h3, h4⟩ => by
            rw [ho] at e
            injection e with e
            refine hw ⟨h3, by omega, h4 _ ?_⟩
            unfold dnO
            rw [hh, Int.toNat_natCast, hkn, if_neg (by have := hd h3; omega)]]
          have : gW n p D l c t ⟨a, (p.getD i pk0).f, i⟩ = 0 := if_neg fun hc => hw ⟨hc.1, hc.2.1, by have := hc.2.2; unfold hopN at this; rw [hh, hkn] at this; exact this⟩
          rw [this, Int.zero_add]
structure WIn (n : Nt) (p : List Pk) (D : Tp) (l c u : Int) (q : List Wt) (k : Nat) (f la s : Int) : Prop where
 hk : k ≤ q.length
 he : ∀ x ∈ q.take k, (pfl n (p.getD x.i pk0)).cl = c → 0 ≤ f ∧ f ≤ x.a ∧ 0 ≤ D x.i (hopN n p l x.i) ∧ D x.i (hopN n p l x.i) ≤ la
 hs : s = wsum (gW n p D l c u) (q.take k)
 f1 : -1 ≤ f
 f2 : f ≤ 3000
 l1 : -1 ≤ la
 l2 : la ≤ 3000
 s1 : 0 ≤ s
 s2 : s ≤ 1500 * k
theorem WIn.zero {n : Nt} {p : List Pk} {D : Tp} {l c u : Int} {q : List Wt} : WIn n p D l c u q 0 (-1) (-1) 0 :=
 ⟨Nat.zero_le _, fun x hx => by simp at hx, rfl, by omega, by omega, by omega, by omega, by omega, by omega⟩
theorem WIn.skip {n : Nt} {p : List Pk} {D : Tp} {l c u : Int} {q : List Wt} {k : Nat} {f la s : Int} (h : WIn n p D l c u q k f la s) (hk : k < q.length) (hc : (pfl n (p.getD q[k].i pk0)).cl ≠ c) : WIn n p D l c u q (k + 1) f la s := by
 refine ⟨hk, fun x hx e => ?_, ?_, h.f1, h.f2, h.l1, h.l2, h.s1, by have := h.s2; omega⟩
 ·rw [List.take_succ_eq_append_getElem hk, List.mem_append] at hx
  rcases hx with hx | hx
  ·exact h.he x hx e
  ·rw [List.mem_singleton] at hx; subst hx; exact absurd e hc
 ·rw [wsum_take _ hk, ← h.hs, show gW n p D l c u q[k] = 0 from if_neg fun e => hc e.1, Int.add_zero]
theorem WIn.go {n : Nt} {p : List Pk} {D : Tp} {l c u : Int} {q : List Wt} {k : Nat} {f la s f' s' : Int} (h : WIn n p D l c u q k f la s) (hk : k < q.length) (hc : (pfl n (p.getD q[k].i pk0)).cl = c)
  {a d z : Int} (ea : q[k].a = a) (ed : D q[k].i (hopN n p l q[k].i) = d) (ez : (p.getD q[k].i pk0).s = z) (a0 : 0 ≤ a) (a1 : a ≤ 3000) (d0 : 0 ≤ d) (d1 : d ≤ 3000) (z0 : 0 ≤ z) (z1 : z ≤ 1500)
  (hf : ((f < 0 ∨ a < f) ∧ f' = a) ∨ (¬(f < 0 ∨ a < f) ∧ f' = f)) (hs : ((a ≤ u ∧ u ≤ d) ∧ s' = s + z) ∨ (¬(a ≤ u ∧ u ≤ d) ∧ s' = s)) :
  WIn n p D l c u q (k + 1) f' (max la d) s' := by
 have b1 := h.f1; have b2 := h.f2; have b3 := h.l1; have b4 := h.l2; have b5 := h.s1; have b6 := h.s2
 refine ⟨hk, fun x hx e => ?_, ?_, by omega, by omega, by omega, by omega, by omega, by omega⟩
 ·rw [List.take_succ_eq_append_getElem hk, List.mem_append] at hx
  rcases hx with hx | hx
  ·have := h.he x hx e
   omega
  ·rw [List.mem_singleton] at hx; subst hx; rw [ea, ed]; omega
 ·rw [wsum_take _ hk, ← h.hs]
  unfold gW
  rw [ea, ed, ez]
  rcases hs with ⟨h1, rfl⟩ | ⟨h1, rfl⟩
  ·rw [if_pos ⟨hc, h1⟩]
  ·rw [if_neg fun e => h1 e.2, Int.add_zero]
theorem WIn.done {n : Nt} {p : List Pk} (h : SkP n p) {D : Tp} {l : Nat} {c u : Int} {q : List Wt} {f la s : Int} (hq : q = qu (toF n p) D l) (hw : WIn n p D l c u q q.length f la s) :
  waiF n p D l c u p.length = s ∧ waiF n p D l c (f - 1) p.length = 0 ∧ (0 ≤ la → waiF n p D l c (la + 1) p.length = 0) := by
 have he := hw.he
 have hs := hw.hs
 rw [List.take_length] at he hs
 subst hq
 have hq2 : quL n p D l p.length = qu (toF n p) D l := quL_nat _
 have hD : ∀ x ∈ qu (toF n p) D l, (pfl n (p.getD x.i pk0)).cl = c → 0 ≤ D x.i (hopN n p l x.i) := fun x hx e => (he x hx e).2.2.1
 refine ⟨?_, ?_, fun _ => ?_⟩
 ·rw [waiF_sum h hD _ (Nat.le_refl _), hq2, hs]
 ·rw [waiF_sum h hD _ (Nat.le_refl _), hq2]
  refine wsum_zero fun x hx => if_neg fun e => ?_
  have := he x hx e.1
  have := e.2.1
  omega
 ·rw [waiF_sum h hD _ (Nat.le_refl _), hq2]
  refine wsum_zero fun x hx => if_neg fun e => ?_
  have := he x hx e.1
  have := e.2.2
  omega
theorem aP_O9 {A B K : Prop} (k : K) (a : A := by (simp only [zA, zT, zD, zC, zN, ints_len, zR, Go.Cv.vals_len]; omega)) (b : B := by (simp only [zA, zT, zD, zC, zN, ints_len, zR, Go.Cv.vals_len]; omega)) : (A ∧ B) ∧ K := ⟨⟨a, b⟩, k⟩
theorem z2_O9 {G H : Prop} (k : H) (h : H → G := by first | exact fun r => aS r | exact fun r => aG r | exact fun r => aD r | exact fun r => aP_O9 r | exact fun r => aI r | exact fun r => aJ r | exact fun r => aW (.qs [0, 1, 2, 3, 4, 5, 6, 7, 8, 9, 10, 11, 12, 13, 14, 15, 16, 17] (.l 18 [7, 5, 1] (.qs [19, 20, 21] .nil) .no)) r) : G := h k
theorem z1_O9 {G H : Prop} (k : H) (h : H → G := by first | exact fun r => aS r | exact fun r => aG r | exact fun r => aD r | exact fun r => aH r | exact fun r => aP_O9 r | exact fun r => aI r | exact fun r => aJ r | exact fun r => aW (.qs [0, 1, 2, 3, 4, 5, 6, 7, 8, 9, 10, 11, 12, 13, 14, 15, 16, 17] (.l 18 [7, 5, 1] (.qs [19, 20, 21] .nil) .no)) r) : G := h k
theorem Waits_ok (l : List Int) (hl : l.length ≤ 9223372036854775807) (a : Int) (ha : 0 ≤ a ∧ a ≤ 255) :
  Ctr Tryz.prog 4 [.psl 1 (ints l), .num .u8 a] [] (fun r o => r = .bl true) := by
 refine fn_intro (E := env 0) tys_ok rfl rfl rfl Tryz.func4 (by kernel_rfl) rfl (by kernel_rfl) ?_
 have hL : (l.take 2000).length ≤ 2000 := by rw [List.length_take]; omega
 (repeat' (conv => whnf); first | (refine aC (fun _ => ?_) (fun _ => ?_) <;> try (exfalso; omega)) | refine z1_O9 ?_ | (refine aK [] (sane36_ok) ?_) | (refine aK [] (New_ok l hl) ?_) | fail); all_goals try (conv => whnf)
 ·rfl
 refine aM [0] (Net_ok _ 0 hL (by omega) 3 4 (by omega) (by omega)) rfl rfl ?_
 rintro _ _ ⟨⟨n, k, p1⟩, ⟨hG, hp1⟩, rfl, rfl⟩
 dsimp only at hG hp1 ⊢
 have hn := hG.nl
 have hchk := hG.g.chk
 have hmf := hG.mf
 have hml := hG.ml
 have hsz := hG.szs
 have hlc : ∀ i, i < n.ln.length → 0 ≤ (n.ln.getD i ln0).n ∧ (n.ln.getD i ln0).n ≤ 6 := fun i hi => by
  have hce := chk_ln hchk hi
  unfold lnErr at hce
  split at hce
  ·cases hce
  split at hce
  ·cases hce
  omega
 (repeat' (conv => whnf); first | (refine aC (fun _ => ?_) (fun _ => ?_) <;> try (exfalso; omega)) | refine z1_O9 ?_ | fail); all_goals try (conv => whnf)
 refine aM [0] (Sends_ok _ p1 hL hp1 n hn (by omega) hsz 12 (by omega)) rfl rfl ?_
 rintro _ _ ⟨⟨p, p2⟩, ⟨hS, hp14, hp2⟩, rfl, rfl⟩
 dsimp only at hS hp14 hp2 ⊢
 have hK := hS.sk hchk (by omega)
 have hpl := pks_len p
 have hll := lnl n.ln
 (repeat' (conv => whnf); first | (refine aC (fun _ => ?_) (fun _ => ?_) <;> try (exfalso; omega)) | refine z2_O9 ?_ | fail); all_goals try (conv => whnf)
 refine .mk [.fz 2] ?_
 (repeat' (conv => whnf); first | (refine aC (fun _ => ?_) (fun _ => ?_) <;> try (exfalso; omega)) | refine z1_O9 ?_ | fail); all_goals try (conv => whnf)
 refine aK [] (RRun_ok n hn p hK 1000 (by omega)) ?_
 have hsA := trR_sh (F := toF n p) (Z := liN n) (N := 1000) hK.rts
 have hMA := MsL.of hK (by omega) hsA
 generalize trR (toF n p) (liN n) 1000 = A at *
 have htA := trs_len A
 have hAl : A.length = p.length := hsA.l
 (repeat' (conv => whnf); first | (refine aC (fun _ => ?_) (fun _ => ?_) <;> try (exfalso; omega)) | refine z1_O9 ?_ | fail); all_goals try (conv => whnf)
 refine LoopOb.mk (Y := Nat) (st := fun i => ⟨[(42, i64 i), (41, i64 (lns n.ln).length), (1, .num .u8 a), (8, .ptr 1 0), (7, .psl 3 (pks p)), (6, .ptr 0 0)], [nbx n, .box [.psl 1 (trs A)]]⟩)
  (inv := fun i => i ≤ n.ln.length) (fun i => n.ln.length - i) 0 [1, 3] (by omega) (by (exact aL)) ?_
 rintro i hi
 by_cases hil : i < n.ln.length
 ·have cQ := RQu_ok n hn p hK.l hK.rt A hMA i
  have hqP := fun x hx => hK.qu (N := 1000) (by omega) (fun i k hi hk => (hsA.b i k hi hk).2) (l := i) (x := x) hx
  have hql := qu_len n p (dR A) i
  have eq : quL n p (dR A) i p.length = qu (toF n p) (dR A) i := quL_nat _
  have hfin := fun c u f la s => WIn.done hK (D := dR A) (l := i) (c := c) (u := u) (f := f) (la := la) (s := s) (q := qu (toF n p) (dR A) i) rfl
  rw [eq] at cQ
  replace cQ := cQ.mono fun r o (h : QuR _ _ r o) => (⟨h.2, h.1⟩ : o = [.vec 3 (pks (pkq (toF n p) (qu (toF n p) (dR A) i))), .vec 1 (ints (ixs (qu (toF n p) (dR A) i)))] ∧ r = .tup [.vec 0, .vec 1])
  generalize qu (toF n p) (dR A) i = q at *
  have hpq := pks_len (pkq (toF n p) q)
  rw [pkq_len] at hpq
  have hix := ints_len (ixs q)
  rw [ixs_len] at hix
  (repeat' (conv => whnf); first | (refine aC (fun _ => ?_) (fun _ => ?_) <;> try (exfalso; omega)) | refine z1_O9 ?_ | fail); all_goals try (conv => whnf)
  refine aK [] cQ ?_
  (repeat' (conv => whnf); first | (refine aC (fun _ => ?_) (fun _ => ?_) <;> try (exfalso; omega)) | refine z2_O9 ?_ | fail); all_goals try (conv => whnf)
  refine .mk [.fz 2, .fz 3] ?_
  have hcl := hlc i hil
  have hgl := lng (l := n.ln) (i := i) hil
  refine LoopOb.mk (Y := Nat) (st := fun c => ⟨[(13, i64 c), (12, .psl 1 (ints (ixs q))), (11, .psl 3 (pks (pkq (toF n p) q))), (10, i64 i), (42, i64 i), (41, i64 (lns n.ln).length), (1, .num .u8 a), (8, .ptr 1 0), (7, .psl 3 (pks p)), (6, .ptr 0 0)], [nbx n, .box [.psl 1 (trs A)]]⟩)
   (inv := fun c => (c : Int) ≤ (n.ln.getD i ln0).n) (fun c => (n.ln.getD i ln0).n.toNat - c) 0 [0, 1] (by omega) (by (exact aL)) ?_
  rintro c hc
  obtain ⟨u, hu, hu2⟩ : ∃ u : Int, a.tmod 60 = u ∧ 0 ≤ u ∧ u < 60 := ⟨a.tmod 60, rfl, by rw [Int.tmod_eq_emod_of_nonneg ha.1]; omega, by rw [Int.tmod_eq_emod_of_nonneg ha.1]; omega⟩
  have cW := fun t => OWai_ok n hn p hK A hMA i c t
  by_cases hcc : (c : Int) < (n.ln.getD i ln0).n
  ·(repeat' (conv => whnf); first | refine ⟨i, _, rfl, hgl, ?_⟩ | (refine aC (fun _ => ?_) (fun _ => ?_) <;> try (exfalso; omega)) | refine z1_O9 ?_ | fail); all_goals try (conv => whnf)
   refine ⟨by decide, ?_⟩
   rw [hu]
   (repeat' (conv => whnf); first | (refine aC (fun _ => ?_) (fun _ => ?_) <;> try (exfalso; omega)) | refine z1_O9 ?_ | fail); all_goals try (conv => whnf)
   refine LoopOb.mk (Y := Nat × Int × Int × Int) (st := fun y => ⟨[(68, i64 y.1), (67, i64 (pks (pkq (toF n p) q)).length), (14, i64 y.2.1), (15, i64 y.2.2.1), (16, i64 y.2.2.2), (17, i64 u), (13, i64 c), (12, .psl 1 (ints (ixs q))), (11, .psl 3 (pks (pkq (toF n p) q))), (10, i64 i), (42, i64 i), (41, i64 (lns n.ln).length), (1, .num .u8 a), (8, .ptr 1 0), (7, .psl 3 (pks p)), (6, .ptr 0 0)], [nbx n, .box [.psl 1 (trs A)]]⟩)
    (inv := fun y => WIn n p (dR A) i c u q y.1 y.2.1 y.2.2.1 y.2.2.2) (fun y => q.length - y.1) (0, -1, -1, 0) [0, 1] WIn.zero (by (exact aL)) ?_
   rintro ⟨k, f, la, s⟩ hI
   dsimp only at hI ⊢
   have hk := hI.hk
   have b1 := hI.f1; have b2 := hI.f2; have b3 := hI.l1; have b4 := hI.l2; have b5 := hI.s1; have b6 := hI.s2
   by_cases hkl : k < q.length
   ·have gq := pks_get (l := pkq (toF n p) q) (j := k) (by rw [pkq_len]; exact hkl)
    have gx := ints_get (l := ixs q) (j := k) (by rw [← ixs_len q] at hkl; simpa using hkl)
    have hx := hqP q[k] (List.getElem_mem hkl)
    have hpk := pkq_at (F := toF n p) hkl
    have hix2 : (ixs q).getD k 0 = (q[k].i : Int) := by simp [ixs, hkl]
    have hsk := hI.skip hkl
    have hgo := fun (hc : (pfl n (p.getD q[k].i pk0)).cl = c) d ed f' s' d0 d1 => hI.go hkl hc (a := q[k].a) (d := d) (z := (p.getD q[k].i pk0).s) (f' := f') (s' := s') rfl ed rfl hx.2.2.2.1 (by omega) d0 d1 (by omega) hx.2.2.1
    obtain ⟨h, hh⟩ := hx.2.2.2.2.2.2.2
    have hop' := hop_hp hK.rt (l := i) hx.1
    rw [hh] at hop'
    obtain ⟨hh1, hh2⟩ := hp_some hh
    have rA := hsA.r q[k].i hx.1
    have bA := hsA.b q[k].i h hx.1 hh1
    have gA := trs_get (ms := A) (i := q[k].i) (by omega)
    have iA := ints_get (l := A.getD q[k].i []) (j := h) (by omega)
    have lA := ints_len (A.getD q[k].i [])
    rw [dR_in (ms := A) (by omega)] at iA
    dsimp only at hop'
    have hopn : hopN n p i q[k].i = h := by unfold hopN; rw [hop', Int.toNat_natCast]
    rw [hopn] at hgo
    have gp := pks_get (l := p) (j := q[k].i) hx.1
    rw [hix2] at gx
    rw [hpk] at gq
    have gq2 : (pks (pkq (toF n p) q))[k]? = some [i64 (pfl n (p.getD q[k].i pk0)).cl, i64 q[k].a, i64 (p.getD q[k].i pk0).s] := gq
    clear gq
    generalize hd : dR A q[k].i h = d at *
    replace hgo := fun hc f' s' d0 => hgo hc d rfl f' s' d0 (by omega)
    have hx1 := hx.1
    have hx3 := hx.2.2.2.1
    have hx4 := hx.2.2.2.2.1
    have hs1 := hx.2.1
    have hs2 := hx.2.2.1
    have hk60 : k < 60 := by have := hK.l; omega
    clear hx hqP hI hfin hix2 hpk hsA
    generalize pfl n (p.getD q[k].i pk0) = fw at *
    generalize q[k].i = xi at *
    generalize q[k].a = xa at *
    generalize A.getD xi [] = ra at *
    have cH := rHop_ok n hn (p.getD xi pk0).f i
    rw [hop'] at cH
    generalize p.getD xi pk0 = x at *
    by_cases hc2 : fw.cl = c
    ·replace hgo := hgo hc2
     (repeat' (conv => whnf); first | refine ⟨h, _, rfl, iA, ?_⟩ | refine ⟨xi, _, rfl, gA, ?_⟩ | refine ⟨xi, _, rfl, gp, ?_⟩ | refine ⟨k, _, rfl, gx, ?_⟩ | refine ⟨k, _, rfl, gq2, ?_⟩ | (refine aC (fun _ => ?_) (fun _ => ?_) <;> try (exfalso; omega)) | refine z1_O9 ?_ | (refine aK [] cH ?_) | (refine aK [] sane36_ok ?_) | fail); all_goals try (conv => whnf)
     all_goals first
      |rfl
      |exact ⟨(k + 1, xa, max la d, s + x.s), [0, 1], hgo xa (s + x.s) (by omega) (.inl ⟨by omega, rfl⟩) (.inl ⟨by omega, rfl⟩), by dsimp only; omega, by (exact aL)⟩
      |exact ⟨(k + 1, xa, max la d, s), [0, 1], hgo xa s (by omega) (.inl ⟨by omega, rfl⟩) (.inr ⟨by omega, rfl⟩), by dsimp only; omega, by (exact aL)⟩
      |exact ⟨(k + 1, f, max la d, s + x.s), [0, 1], hgo f (s + x.s) (by omega) (.inr ⟨by omega, rfl⟩) (.inl ⟨by omega, rfl⟩), by dsimp only; omega, by (exact aL)⟩
      |exact ⟨(k + 1, f, max la d, s), [0, 1], hgo f s (by omega) (.inr ⟨by omega, rfl⟩) (.inr ⟨by omega, rfl⟩), by dsimp only; omega, by (exact aL)⟩
      |trace_state
    ·have := hsk hc2
     (repeat' (conv => whnf); first | refine ⟨k, _, rfl, gq2, ?_⟩ | (refine aC (fun _ => ?_) (fun _ => ?_) <;> try (exfalso; omega)) | refine z1_O9 ?_ | fail); all_goals try (conv => whnf)
     exact ⟨(k + 1, f, la, s), [0, 1], this, by dsimp only; omega, by (exact aL)⟩
   ·obtain rfl : k = q.length := by omega
    obtain ⟨w1, w2, w3⟩ := hfin c u f la s hI
    (repeat' (conv => whnf); first | (refine aC (fun _ => ?_) (fun _ => ?_) <;> try (exfalso; omega)) | refine z1_O9 ?_ | (refine aM [] (cW _) rfl rfl ?_; rintro _ _ ⟨rfl, rfl⟩; first | rw [w1] | rw [w2] | rw [w3 (by omega)]) | fail); all_goals try (conv => whnf)
    all_goals first
     |exact ⟨c + 1, [0, 1], by omega, by omega, by (exact aL)⟩
     |exact absurd rfl (by assumption)
     |(exfalso; omega)
     |trace_state
  ·(repeat' (conv => whnf); first | refine ⟨i, _, rfl, hgl, ?_⟩ | (refine aC (fun _ => ?_) (fun _ => ?_) <;> try (exfalso; omega)) | refine z1_O9 ?_ | fail); all_goals try (conv => whnf)
   all_goals exact ⟨i + 1, [0, 1], by omega, by omega, by (exact aL)⟩
 ·obtain rfl : i = n.ln.length := by omega
  (repeat' (conv => whnf); first | (refine aC (fun _ => ?_) (fun _ => ?_) <;> try (exfalso; omega)) | refine z1_O9 ?_ | (refine aK [] (sane36_ok) ?_) | fail); all_goals try (conv => whnf)
  rfl
end Go.Proofs.YtaomhdljcdadaaaGreat
