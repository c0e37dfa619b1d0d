/- Lemmas that the proofs of this seat use (O4 O5 R9). Conditions: those that stand in each theorem. -/
import Derived.Test.YtaomhdljcdadaaaGreatO3
import Derived.Test.YtaomhdljcdadaaaGreatS6
import Derived.Test.YtaomhdljcdadaaaGreatW3
import Derived.Test.YtaomhdljcdadaaaGreatPl
set_option linter.unusedVariables false
set_option linter.unusedSimpArgs false
section
namespace Go.Proofs.YtaomhdljcdadaaaGreat
open Go.Sx Go.Pk Go.Mc Go.Np Go.Tp
set_option maxRecDepth 4000
set_option maxHeartbeats 2000000
def endO (n : Nt) (d : List (List Int)) (f : Int) : Option Int := if 0 ≤ f ∧ f < n.fl.length then match bef d (n.fl.getD f.toNat fl0) (n.fl.getD f.toNat fl0).rt.length with
 |none => none
 |some s => some ((n.fl.getD f.toNat fl0).rt.length - 1 + (s : Int))
 else none
theorem aP_O4 {A B K : Prop} (k : K) (a : A := by (simp only [zA, zT, zD, zC, zN, ints_len, zR, Go.Cv.vals_len]; omega)) (b : B := by (simp only [zA, zT, zD, zC, zN, ints_len, zR, Go.Cv.vals_len]; omega)) : (A ∧ B) ∧ K := ⟨⟨a, b⟩, k⟩
theorem z1_O4 {G H : Prop} (k : H) (h : H → G := by first | exact fun r => aS r | exact fun r => aG r | exact fun r => aD r | exact fun r => aH r | exact fun r => aP_O4 r | exact fun r => aI r | exact fun r => aJ r | exact fun r => aW (.qs [0, 1, 2, 3, 4, 5, 6, 7, 8] .nil) r | exact fun r => aW (.qs [0, 1, 2, 3, 4, 5, 6, 7, 8, 9, 10] .nil) r) : G := h k
theorem HEnd_ok (n : Nt) (hn : NL n) (d : List (List Int)) (hd : DL d) (hS : ShapeP n d) (f : Int) : Ctr Tryz.prog 81 [ntv n, .psl 1 (dls d), i64 f] [] (fun r o => o = [] ∧ r = arrT (endO n d f)) := by
 refine fn_intro (E := env 0) tys_ok rfl rfl rfl Tryz.func81 (by kernel_rfl) rfl (by kernel_rfl) ?_
 have hfl := fll n.fl
 have hnf := hn.fl
 have hdl := dls_len d
 have hd1 := hd.l
 by_cases hf : 0 ≤ f ∧ f < n.fl.length
 ·obtain ⟨j, rfl⟩ := Int.eq_ofNat_of_zero_le hf.1
  have hj : j < n.fl.length := by omega
  have hfg := flg (l := n.fl) (i := j) hj
  have hRt := chk_fl hS.c j hj
  have heo : endO n d j = match bef d (n.fl.getD j fl0) (n.fl.getD j fl0).rt.length with
    |none => none
    |some s => some ((n.fl.getD j fl0).rt.length - 1 + (s : Int)) := by
   unfold endO; rw [if_pos hf, Int.toNat_natCast]
  have hbl := fun i s hi hs => bef_le hS hRt (i := i) (s := s) hi hs
  have hdy := fun i hi => hS.dly hRt (i := i) hi
  have hrb := hRt.b
  have hrc := hRt.c
  have r4 := hRt.l2
  have r1 := hRt.l1
  clear hRt
  generalize n.fl.getD j fl0 = w at *
  have hrl := ints_len w.rt
  (repeat' (conv => whnf); first | refine ⟨j, _, rfl, hfg, ?_⟩ | (refine aC (fun _ => ?_) (fun _ => ?_) <;> try (exfalso; omega)) | refine z1_O4 ?_ | (refine aK [] (Shape_ok n hn d hd) ?_) | fail); all_goals try (conv => whnf)
  ·exact absurd hS (by assumption)
  refine LoopOb.mk (Y := Nat × Nat) (st := fun y => ⟨[(39, i64 y.1), (38, i64 (ints w.rt).length), (37, .psl 1 (ints w.rt)), (9, i64 ((w.rt.length : Int) - 1 + y.2)), (8, .ptr 1 0), (1, .psl 1 (dls d))], [nbx n, .box (flv w)]⟩)
   (inv := fun y => y.1 ≤ w.rt.length ∧ bef d w y.1 = some y.2) (fun y => w.rt.length - y.1) (0, 0) [0, 1] ⟨Nat.zero_le _, rfl⟩ (by dsimp only; rw [← hrl]; (exact aL)) ?_
  rintro ⟨i, s⟩ ⟨hi, hs⟩
  dsimp only at hi hs ⊢
  have hb := hbl i s hi hs
  by_cases hil : i < w.rt.length
  ·obtain ⟨d1, d2, d3, d4⟩ := hdy i hil
   have b1 := hrb i hil
   have c1 := hrc i hil
   have grt := ints_get (l := w.rt) (j := i) hil
   have gdl := dls_get (d := d) (i := (w.rt.getD i 0).toNat) d1
   have gdd := ints_get (l := d.getD (w.rt.getD i 0).toNat []) (j := w.cl.toNat) d2
   have hil2 := ints_len (d.getD (w.rt.getD i 0).toNat [])
   have hbn : bef d w (i + 1) = if dly d w i < 0 then none else some (s + (dly d w i).toNat) := by simp only [Np.bef, hs]
   have hrw := hd.r (w.rt.getD i 0).toNat
   unfold dly at hbn d3 d4
   generalize w.rt.getD i 0 = v at *
   generalize d.getD v.toNat [] = row at *
   generalize row.getD w.cl.toNat 0 = z at *
   (repeat' (conv => whnf); first | refine ⟨w.cl.toNat, _, by omega, gdd, ?_⟩ | refine ⟨v.toNat, _, by omega, gdl, ?_⟩ | refine ⟨i, _, rfl, grt, ?_⟩ | (refine aC (fun _ => ?_) (fun _ => ?_) <;> try (exfalso; omega)) | refine z1_O4 ?_ | fail); all_goals try (conv => whnf)
   ·rw [if_pos (by assumption)] at hbn
    exact ⟨rfl, by rw [heo, bef_none hbn (by omega)]; rfl⟩
   ·rw [if_neg (by assumption)] at hbn
    exact ⟨(i + 1, s + z.toNat), [0, 1], ⟨by dsimp only; omega, hbn⟩, by dsimp only; omega, by dsimp only; rw [show (w.rt.length : Int) - 1 + ((s + z.toNat : Nat) : Int) = (w.rt.length : Int) - 1 + (s : Int) + z by omega]; (exact aL)⟩
  ·obtain rfl : i = w.rt.length := by omega
   (repeat' (conv => whnf); first | (refine aC (fun _ => ?_) (fun _ => ?_) <;> try (exfalso; omega)) | refine z1_O4 ?_ | fail); all_goals try (conv => whnf)
   exact ⟨rfl, by rw [heo, hs]; rfl⟩
 ·have heo : endO n d f = none := if_neg hf
  rw [heo]
  (repeat' (conv => whnf); first | (refine aC (fun _ => ?_) (fun _ => ?_) <;> try (exfalso; omega)) | refine z1_O4 ?_ | (refine aK [] (Shape_ok n hn d hd) ?_) | fail); all_goals try (conv => whnf)
  all_goals exact ⟨rfl, rfl⟩
end Go.Proofs.YtaomhdljcdadaaaGreat
end
section
namespace Go.Proofs.YtaomhdljcdadaaaGreat
open Go.Sx Go.Pk Go.Mc Go.Np Go.Tp
set_option maxRecDepth 4000
set_option maxHeartbeats 2000000
open Classical in
noncomputable def vioK (n : Nt) (d : List (List Int)) (p : List Pk) (v : Vi) : Bool := decide (if v.h < 0 then ∃ b, endO n d (p.getD v.k pk0).f = some b ∧ b < v.x else dly d (pfl n (p.getD v.k pk0)) v.h.toNat ≠ -1 ∧ dly d (pfl n (p.getD v.k pk0)) v.h.toNat < v.x)
noncomputable def vioL (n : Nt) (d : List (List Int)) (p : List Pk) (D : Tp) : List Vi := (tell n p D p.length).filter (vioK n d p)
theorem tell_mem {n : Nt} {p : List Pk} {D : Tp} {v : Vi} (h : v ∈ tell n p D p.length) : v.k < p.length ∧ ((v.h = -1 ∧ enO n p D v.k = some v.x) ∨ ∃ h : Nat, h < (pfl n (p.getD v.k pk0)).rt.length ∧ v.h = h ∧ delO n p D v.k h = some v.x) := allL_mem h
theorem tell_len {n : Nt} {p : List Pk} (h : SkP n p) {D : Tp} : ∀ i, i ≤ p.length → (tell n p D i).length ≤ 5 * i
  | 0, _ => Nat.le_refl _
  | i + 1, hi => by
    have ih := tell_len h (D := D) i (by omega)
    have r4 := (h.fl (i := i) (by omega)).2.2.2.2.1.l2
    have ho : ∀ (i : Nat) (h : Int) o, (optL i h o).length ≤ 1 := fun i h o => by cases o <;> simp [optL]
    have hh : ∀ k, (hopL (fun i h => delO n p D i h) i k).length ≤ k := fun k => by
      induction k with
      | zero => exact Nat.le_refl _
      | succ k ihk => rw [hopL, List.length_append]; have := ho i k (delO n p D i k); omega
    show (tell n p D i ++ (hopL (fun i h => delO n p D i h) i (pfl n (p.getD i pk0)).rt.length ++ optL i (-1) (enO n p D i))).length ≤ _
    rw [List.length_append, List.length_append]
    have := hh (pfl n (p.getD i pk0)).rt.length
    have := ho i (-1) (enO n p D i)
    omega
theorem _root_.Go.Sx.CtrY.mono {P : Program} {Y : YP} {args : List SV} {own : List Chunk} {post post' : SV → List Chunk → Prop} (h : CtrY P Y args own post) (hp : ∀ r o, post r o → post' r o) : CtrY P Y args own post' :=
 ⟨fun w σ β vs a b c n => (h.run w σ β vs a b c n).mono fun e w' he => by
  obtain ⟨v, σ', β', own', r, a, b, c, d, q⟩ := he
  exact ⟨v, σ', β', own', r, a, b, c, d, hp _ _ q⟩⟩
theorem aP_O5 {A B K : Prop} (k : K) (a : A := by (simp only [zA, zT, zD, zC, zN, ints_len, zR, Go.Cv.vals_len]; omega)) (b : B := by (simp only [zA, zT, zD, zC, zN, ints_len, zR, Go.Cv.vals_len]; omega)) : (A ∧ B) ∧ K := ⟨⟨a, b⟩, k⟩
theorem z2_O5 {G H : Prop} (k : H) (h : H → G := by first | exact fun r => aS r | exact fun r => aG r | exact fun r => aD r | exact fun r => aH r | exact fun r => aP_O5 r | exact fun r => aI r | exact fun r => aJ r | exact fun r => aW (.qs [0, 1, 2, 3, 4, 5, 6, 7, 8, 9, 10, 11, 12, 13] .nil) r) : G := h k
theorem z1_O5 {G H : Prop} (k : H) (h : H → G := by first | exact fun r => aS r | exact fun r => aG r | exact fun r => aD r | exact fun r => aP_O5 r | exact fun r => aI r | exact fun r => aJ r | exact fun r => aW (.qs [0, 1, 2, 3, 4, 5, 6, 7, 8, 9, 10, 11, 12, 13] .nil) r) : G := h k
theorem OVio_ok (n : Nt) (hn : NL n) (d : List (List Int)) (hd : DL d) (hS : ShapeP n d) (p : List Pk) (h : SkP n p) (ms : List (List Int)) (hm : MsL ms) :
    Ctr Tryz.prog 38 [ntv n, .psl 1 (dls d), .psl 3 (pks p), .agg [.psl 1 (trs ms)]] [] (fun r o => o = [] ∧ r = .psl 3 (vis (vioL n d p (dR ms)))) := by
  refine Ctr.imp ?_
  refine fn_introR (E := env 0) tys_ok rfl rfl rfl Tryz.func38 (by kernel_rfl) rfl (by kernel_rfl) ?_
  have h60 := h.l
  have hpl := pks_len p
  have hfl := fll n.fl
  (repeat' (conv => whnf); first | exact absurd hS (by assumption) | refine AsgOb.nil ?_ | (refine aC (fun _ => ?_) (fun _ => ?_) <;> try (exfalso; omega)) | refine z1_O5 ?_ | (refine Gh.mk [] ?_; (conv => whnf); refine aK [] (Shape_ok n hn d hd) ?_) | (refine Gh.mk [] ?_; (conv => whnf); refine aK [] (SChk_ok n hn p (by omega)) ?_; rw [sck_zero.2 h]) | (refine Gh.mk [] ?_; (conv => whnf); refine aK [] (Sent_ok n p ms) ?_) | fail); all_goals try (conv => whnf)
  obtain ⟨L, hL⟩ : ∃ L, tell n p (dR ms) p.length = L := ⟨_, rfl⟩
  obtain ⟨K, hK⟩ : ∃ K, vioK n d p = K := ⟨_, rfl⟩
  have hvl : vioL n d p (dR ms) = L.filter K := by rw [← hL, ← hK]; rfl
  have hLl : L.length ≤ 300 := by rw [← hL]; have := tell_len h (D := dR ms) p.length (Nat.le_refl _); omega
  refine .mk [.nb 4 0 3] ?_
  refine RangeOb.mk 5 (L.map fun v => [.agg (viw v)]) (fun j o => o = voA (preV n d p ms) ((L.take j).filter K)) (fun j o => ∀ v, L[j - 1]? = some v → o = if K v = true then voB (preV n d p ms) ((L.take j).filter K) else voA (preV n d p ms) ((L.take j).filter K)) (fun j o => o = voA (preV n d p ms) (L.filter K) ∨ o = voB (preV n d p ms) (L.filter K)) (by kernel_rfl) (fun r hr => by obtain ⟨x, _, rfl⟩ := List.mem_map.1 hr; rfl) ?_ ?_ ?_
  · intro Y hm5 hY
    rw [← hL]
    refine sent1_ok Y hm5 n hn p h ms hm d K fun j v hv => ?_
    rw [hL] at hv ⊢
    exact (hY j _ [.agg (viw v)] rfl (by rw [List.getElem?_map, hv]; rfl)).mono fun r o ⟨h1, h2⟩ => ⟨h1, h2 v hv⟩
  · rintro j o r rfl hr
    rw [List.getElem?_map] at hr
    cases hx : L[j]? with
    | none => rw [hx] at hr; cases hr
    | some v =>
      rw [hx] at hr; cases hr
      have hvm : v ∈ tell n p (dR ms) p.length := by rw [hL]; exact List.mem_of_getElem? hx
      obtain ⟨vk, vh⟩ := tell_mem hvm
      have hjl : j < L.length := (List.getElem?_eq_some_iff.1 hx).1
      have hcl : ((L.take j).filter K).length ≤ 300 := Nat.le_trans (List.length_filter_le _ _) (by rw [List.length_take]; omega)
      have htk : L.take (j + 1) = L.take j ++ [v] := by rw [List.take_succ_eq_append_getElem hjl, (List.getElem?_eq_some_iff.1 hx).2]
      rw [show j + 1 - 1 = j from rfl]
      have hrow : (fun v : Vi => [SV.agg (viw v)]) v = [.agg [i64 v.k, i64 v.h, i64 v.x]] := rfl
      rw [hrow]
      have hR : ∀ o, (o = if K v = true then voB (preV n d p ms) (((L.take j).filter K) ++ [v]) else voA (preV n d p ms) ((L.take j).filter K)) → ∀ v', L[j]? = some v' → o = if K v' = true then voB (preV n d p ms) ((L.take (j + 1)).filter K) else voA (preV n d p ms) ((L.take (j + 1)).filter K) := fun o ho v' hv' => by
        obtain rfl := Option.some.inj (hx.symm.trans hv')
        rw [ho, htk, List.filter_append]
        by_cases c : K v = true
        · rw [if_pos c, if_pos c, List.filter_cons, if_pos c, List.filter_nil]
        · rw [if_neg c, if_neg c, List.filter_cons, if_neg c, List.filter_nil, List.append_nil]
      generalize (L.take j).filter K = V at *
      obtain ⟨k, vhh, vx⟩ := v
      dsimp only at vk vh hR ⊢
      obtain ⟨f1, f2, t1, t2, hRt, _⟩ := h.fl vk
      have hfg := flg (l := n.fl) (i := (p.getD k pk0).f.toNat) (by omega)
      have hg := pks_get vk
      have hRt2 := chk_fl hS.c (p.getD k pk0).f.toNat (by omega)
      have cE := HEnd_ok n hn d hd hS (p.getD k pk0).f
      have hKv : K ⟨k, vhh, vx⟩ = true ↔ (if vhh < 0 then ∃ b, endO n d (p.getD k pk0).f = some b ∧ b < vx else dly d (pfl n (p.getD k pk0)) vhh.toNat ≠ -1 ∧ dly d (pfl n (p.getD k pk0)) vhh.toNat < vx) := by rw [← hK]; exact decide_eq_true_iff
      unfold pfl at hKv vh
      have hvl2 := vis_len V
      rcases vh with ⟨rfl, he⟩ | ⟨hh, hhl, rfl, he⟩
      · rw [if_pos (by decide)] at hKv
        cases ho : endO n d (p.getD k pk0).f with
        | none =>
          rw [ho] at cE hKv
          simp only [arrT] at cE
          rw [if_neg (fun c => by obtain ⟨b, e, _⟩ := hKv.1 c; cases e)] at hR
          clear hKv
          generalize n.fl.getD (p.getD k pk0).f.toNat fl0 = fw at *
          generalize p.getD k pk0 = x at *
          (repeat' (conv => whnf); first | refine ⟨x.f.toNat, _, by omega, hfg, ?_⟩ | refine ⟨k, _, rfl, hg, ?_⟩ | (refine aC (fun _ => ?_) (fun _ => ?_) <;> try (exfalso; omega)) | refine z1_O5 ?_ | (refine Gh.mk [] ?_; (conv => whnf); refine aK [] cE ?_) | fail); all_goals try (conv => whnf)
          refine .mk [.wk [0, 1, 2, 3, 4, 5] ⟨[], voA (preV n d p ms) V⟩] ⟨by (exact aL), ?_⟩
          (repeat' (conv => whnf); first | (refine aC (fun _ => ?_) (fun _ => ?_) <;> try (exfalso; omega)) | refine z2_O5 ?_ | fail); all_goals try (conv => whnf)
          all_goals exact hR _ rfl
        | some b =>
          rw [ho] at cE hKv
          simp only [arrT, Option.some.injEq, exists_eq_left'] at cE hKv
          generalize n.fl.getD (p.getD k pk0).f.toNat fl0 = fw at *
          generalize p.getD k pk0 = x at *
          by_cases hb : b < vx
          · rw [if_pos (hKv.2 hb)] at hR
            clear hKv
            (repeat' (conv => whnf); first | refine ⟨x.f.toNat, _, by omega, hfg, ?_⟩ | refine ⟨k, _, rfl, hg, ?_⟩ | (refine aC (fun _ => ?_) (fun _ => ?_) <;> try (exfalso; omega)) | refine z1_O5 ?_ | (refine Gh.mk [] ?_; (conv => whnf); refine aK [] cE ?_) | fail); all_goals try (conv => whnf)
            refine .mk [.wk [0, 1, 2, 3, 4, 5, 9] ⟨[], voB (preV n d p ms) (V ++ [⟨k, -1, vx⟩])⟩] ⟨by dsimp only [voB]; rw [vis_app]; (exact aL), ?_⟩
            (repeat' (conv => whnf); first | (refine aC (fun _ => ?_) (fun _ => ?_) <;> try (exfalso; omega)) | refine z2_O5 ?_ | fail); all_goals try (conv => whnf)
            all_goals exact hR _ rfl
          · rw [if_neg (fun c => hb (hKv.1 c))] at hR
            clear hKv
            (repeat' (conv => whnf); first | refine ⟨x.f.toNat, _, by omega, hfg, ?_⟩ | refine ⟨k, _, rfl, hg, ?_⟩ | (refine aC (fun _ => ?_) (fun _ => ?_) <;> try (exfalso; omega)) | refine z1_O5 ?_ | (refine Gh.mk [] ?_; (conv => whnf); refine aK [] cE ?_) | fail); all_goals try (conv => whnf)
            refine .mk [.wk [0, 1, 2, 3, 4, 5] ⟨[], voA (preV n d p ms) V⟩] ⟨by (exact aL), ?_⟩
            (repeat' (conv => whnf); first | (refine aC (fun _ => ?_) (fun _ => ?_) <;> try (exfalso; omega)) | refine z2_O5 ?_ | fail); all_goals try (conv => whnf)
            all_goals exact hR _ rfl
      · rw [if_neg (by omega), Int.toNat_natCast] at hKv
        obtain ⟨d1, d2, d3, d4⟩ := hS.dly hRt2 hhl
        have b1 := hRt2.b hh hhl
        have c1 := hRt2.c hh hhl
        unfold dly at hKv d3 d4
        generalize n.fl.getD (p.getD k pk0).f.toNat fl0 = fw at *
        have grt := ints_get (l := fw.rt) (j := hh) hhl
        have hrl := ints_len fw.rt
        have gdl := dls_get (d := d) (i := (fw.rt.getD hh 0).toNat) d1
        have gdd := ints_get (l := d.getD (fw.rt.getD hh 0).toNat []) (j := fw.cl.toNat) d2
        have hil2 := ints_len (d.getD (fw.rt.getD hh 0).toNat [])
        have hdl := dls_len d
        have hd1 := hd.l
        have hrw := hd.r (fw.rt.getD hh 0).toNat
        have r4 := hRt2.l2
        clear hRt2 hRt
        generalize fw.rt.getD hh 0 = vv at *
        generalize d.getD vv.toNat [] = row at *
        generalize row.getD fw.cl.toNat 0 = z at *
        generalize p.getD k pk0 = x at *
        by_cases hb : z ≠ -1 ∧ z < vx
        · rw [if_pos (hKv.2 hb)] at hR
          clear hKv
          (repeat' (conv => whnf); first | refine ⟨fw.cl.toNat, _, by omega, gdd, ?_⟩ | refine ⟨vv.toNat, _, by omega, gdl, ?_⟩ | refine ⟨hh, _, rfl, grt, ?_⟩ | refine ⟨x.f.toNat, _, by omega, hfg, ?_⟩ | refine ⟨k, _, rfl, hg, ?_⟩ | (refine aC (fun _ => ?_) (fun _ => ?_) <;> try (exfalso; omega)) | refine z1_O5 ?_ | fail); all_goals try (conv => whnf)
          refine .mk [.wk [0, 1, 2, 3, 4, 5, 9] ⟨[], voB (preV n d p ms) (V ++ [⟨k, hh, vx⟩])⟩] ⟨by dsimp only [voB]; rw [vis_app]; (exact aL), ?_⟩
          (repeat' (conv => whnf); first | (refine aC (fun _ => ?_) (fun _ => ?_) <;> try (exfalso; omega)) | refine z2_O5 ?_ | fail); all_goals try (conv => whnf)
          all_goals exact hR _ rfl
        · rw [if_neg (fun c => hb (hKv.1 c))] at hR
          clear hKv
          (repeat' (conv => whnf); first | refine ⟨fw.cl.toNat, _, by omega, gdd, ?_⟩ | refine ⟨vv.toNat, _, by omega, gdl, ?_⟩ | refine ⟨hh, _, rfl, grt, ?_⟩ | refine ⟨x.f.toNat, _, by omega, hfg, ?_⟩ | refine ⟨k, _, rfl, hg, ?_⟩ | (refine aC (fun _ => ?_) (fun _ => ?_) <;> try (exfalso; omega)) | refine z1_O5 ?_ | fail); all_goals try (conv => whnf)
          all_goals refine .mk [.wk [0, 1, 2, 3, 4, 5] ⟨[], voA (preV n d p ms) V⟩] ⟨by (exact aL), ?_⟩
          all_goals exact hR _ rfl
  · rintro o (rfl | rfl)
    · rw [hvl]
      (repeat' (conv => whnf); first | (refine aC (fun _ => ?_) (fun _ => ?_) <;> try (exfalso; omega)) | refine z1_O5 ?_ | fail); all_goals try (conv => whnf)
      refine .mk [.fz 5] ?_
      (repeat' (conv => whnf); first | (refine aC (fun _ => ?_) (fun _ => ?_) <;> try (exfalso; omega)) | refine z2_O5 ?_ | fail); all_goals try (conv => whnf)
      exact ⟨rfl, Imp.refl _⟩
    · rw [hvl]
      (repeat' (conv => whnf); first | (refine aC (fun _ => ?_) (fun _ => ?_) <;> try (exfalso; omega)) | refine z1_O5 ?_ | fail); all_goals try (conv => whnf)
      refine .mk [.fz 6] ?_
      (repeat' (conv => whnf); first | (refine aC (fun _ => ?_) (fun _ => ?_) <;> try (exfalso; omega)) | refine z2_O5 ?_ | fail); all_goals try (conv => whnf)
      exact ⟨rfl, Imp.refl _⟩
end Go.Proofs.YtaomhdljcdadaaaGreat
end
section
namespace Go.Proofs.YtaomhdljcdadaaaGreat
open Go.Sx Go.Cv
set_option maxRecDepth 4000
set_option maxHeartbeats 2000000
theorem vc_bd {a : C3} (h : VC a) {t : Nat} (ht : t ≤ 1048576) : 0 ≤ cv a t ∧ cv a t ≤ 6000000000000000000 := val_bd (bd_of h) ht
end Go.Proofs.YtaomhdljcdadaaaGreat
end
