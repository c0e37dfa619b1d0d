/- Lemmas of this seat. Conditions: as stated. -/
import Derived.Test.YtaomhdljcdadaaaGreatCn5
import Derived.Test.YtaomhdljcdadaaaGreatO5
set_option linter.unusedVariables false
set_option linter.unusedSimpArgs false
set_option maxHeartbeats 2000000
set_option maxRecDepth 4000
namespace Go.Proofs.YtaomhdljcdadaaaGreat
open Go.Sx Go.Pk Go.Mc Go.Np Go.Tp
theorem RWor_ok (n:Nt) (hn:NL n) (p:List Pk) (h:SkP n p) (ms:List (List Int)) (hm:MsL ms) (f:Int):Ctr Tryz.prog 32 [ntv n, .psl 3 (pks p), .agg [.psl 1 (trs ms)],i64 f] [] (fun r o=>o=[]∧r=wrV (worF n p (dR ms) f p.length)):=by
 refine fI 0 Tryz.func32 ?_
 have h60:=h.l
 have hpl:=pks_len p
 (repeat' (conv=>whnf);first|refine aC ?_ ?_<;>intro<;>try omega|refine z2_T1 ?_|fail);all_goals try (conv=>whnf)
 refine LoopOb.mk (Y:=Nat) (st:=fun i=>⟨[(14,i64 i),(11,i64 (worF n p (dR ms) f i).a),(12,i64 (worF n p (dR ms) f i).d),(13, .bl (worF n p (dR ms) f i).b),(6, .ptr 1 0),(4, .ptr 0 0),(1, .psl 3 (pks p)),(3,i64 f)],[nbx n, .box [.psl 1 (trs ms)]]⟩)
  (inv:=fun i=>i≤p.length) (fun i=>p.length-i) 0 [0,1] (by omega) (by(exact aL)) ?_
 rintro i hi
 by_cases hil:i<p.length
 ·have hg:=pks_get hil
  have cE:=REnd_ok n hn p h ms hm i
  have hnx:worF n p (dR ms) f (i+1)=match enO n p (dR ms) i with
   |none=>worF n p (dR ms) f i
   |some d=>if(p.getD i pk0).f =f∧((worF n p (dR ms) f i).b =false∨(worF n p (dR ms) f i).d <d)then⟨i,d,true⟩else worF n p (dR ms) f i:=rfl
  generalize p.getD i pk0=x at*
  generalize worF n p (dR ms) f i=s at*
  obtain⟨sa,sd,sb⟩:=s
  dsimp only at hnx⊢
  cases he:enO n p (dR ms) i with
  |none=>
   rw [he]at cE hnx
   simp only [arrT]at cE hnx
   (repeat' (conv=>whnf);first|refine⟨i,_,rfl,hg,?_⟩|refine aC ?_ ?_<;>intro<;>try omega|refine z2_T1 ?_|(refine aK [] cE ?_)|fail);all_goals try (conv=>whnf)
   all_goals exact⟨i+1,[0,1],by omega,by omega,by rw [hnx];(exact aL)⟩
  |some d=>
   rw [he]at cE hnx
   simp only [arrT]at cE hnx
   cases sb
   ·(repeat' (conv=>whnf);first|refine⟨i,_,rfl,hg,?_⟩|refine aC ?_ ?_<;>intro<;>try omega|refine z2_T1 ?_|(refine aK [] cE ?_)|fail);all_goals try (conv=>whnf)
    all_goals first
     |exact⟨i+1,[0,1],by omega,by omega,by rw [hnx,if_neg (by omega)];(exact aL)⟩
     |exact⟨i+1,[0,1],by omega,by omega,by rw [hnx,if_pos ⟨by omega, .inl rfl⟩];(exact aL)⟩
     |trace_state
   ·have hnx2:=hnx
    simp only [Bool.true_eq_false,false_or]at hnx2
    (repeat' (conv=>whnf);first|refine⟨i,_,rfl,hg,?_⟩|refine aC ?_ ?_<;>intro<;>try omega|refine z2_T1 ?_|(refine aK [] cE ?_)|fail);all_goals try (conv=>whnf)
    all_goals first
     |exact⟨i+1,[0,1],by omega,by omega,by rw [hnx2,if_neg (by omega)];(exact aL)⟩
     |exact⟨i+1,[0,1],by omega,by omega,by rw [hnx2,if_pos ⟨by omega,by omega⟩];(exact aL)⟩
     |trace_state
 ·obtain rfl:i=p.length:=by omega
  (repeat' (conv=>whnf);first|refine aC ?_ ?_<;>intro<;>try omega|refine z2_T1 ?_|fail);all_goals try (conv=>whnf)
  exact⟨rfl,rfl⟩
theorem z2_O11 {G H:Prop} (k:H) (h:H→G:=by first|exact fun r=>aS r|exact fun r=>aG r|exact fun r=>aD r|exact fun r=>aH r|exact fun r=>aP_T1 r|exact fun r=>aI r|exact fun r=>aJ r|exact fun r=>aW (.qs [0,1,2,3,4,5,6] (.l 7 [] (.qs [8] .nil) .no)) r|exact fun r=>aW (.qs [0,1,2,3,4,5,6,7,8,9,10,11,12,13,14,15,16,17,18,19,20] .nil) r):G:=h k
theorem RWai_ok (n:Nt) (hn:NL n) (p:List Pk) (h:SkP n p) (ms:List (List Int)) (hm:MsL ms) (l c t:Int):Ctr Tryz.prog 36 [ntv n, .psl 3 (pks p), .agg [.psl 1 (trs ms)],i64 l,i64 c,i64 t] [] (fun r o=>o=[]∧r=i64 (waiF n p (dR ms) l c t p.length)):=by
 refine fI 0 Tryz.func36 ?_
 have h60:=h.l
 have hpl:=pks_len p
 (repeat' (conv=>whnf);first|refine aC ?_ ?_<;>intro<;>try omega|refine z2_O11 ?_|fail);all_goals try (conv=>whnf)
 have hfl:=fll n.fl
 have htl:=trs_len ms
 have hml:=hm.l
 have hwb:=fun i (hi:i≤p.length)=>waiF_bd h (D:=dR ms) (l:=l) (c:=c) (t:=t) i hi
 refine LoopOb.mk (Y:=Nat) (st:=fun i=>⟨[(14,i64 i),(13,i64 (waiF n p (dR ms) l c t i)),(8, .ptr 1 0),(6, .ptr 0 0),(1, .psl 3 (pks p)),(3,i64 l),(4,i64 c),(5,i64 t)],[nbx n, .box [.psl 1 (trs ms)]]⟩)
  (inv:=fun i=>i≤p.length) (fun i=>p.length-i) 0 [0,1] (by omega) (by(exact aL)) ?_
 rintro i hi
 have hb:=hwb i hi
 by_cases hil:i<p.length
 ·have hg:=pks_get hil
  obtain⟨f1,f2,_,_,hRt,s1,s2⟩:=h.fl hil
  have hfg:=flg (l:=n.fl) (i:=(p.getD i pk0).f.toNat) (by omega)
  have b1:=hRt.s1
  have b2:=hRt.s2
  have cA:=RArr_ok n hn p (by omega) ms hm i (hop n (p.getD i pk0).f l)
  have hy:=fun hw=>waiF_yes (n:=n) (p:=p) (D:=dR ms) (l:=l) (c:=c) (t:=t) (i:=i) hw
  have hno:=fun hw=>waiF_no (n:=n) (p:=p) (D:=dR ms) (l:=l) (c:=c) (t:=t) (i:=i) hw
  unfold waiP at hy hno
  have hab:=fun a=>arO_bd (a:=a) (fun i hi=>by have:=h.fl hi;omega) hm (n:=n) (p:=p) (k:=i) (h:=hop n (p.getD i pk0).f l)
  have hdn:∀j:Nat,hop n (p.getD i pk0).f l=j→dnO (dR ms) i (hop n (p.getD i pk0).f l)=if dR ms i j<0 then none else some (dR ms i j):=fun j e=>by
   rw [e];unfold dnO
   simp only [Int.toNat_natCast]
   by_cases c:dR ms i j<0
   ·rw [if_pos c,if_pos (.inr (.inr c))]
   ·rw [if_neg c,if_neg (by omega)]
  unfold pfl at hy hno
  generalize arO n p (dR ms) i (hop n (p.getD i pk0).f l)=ao at*
  generalize dnO (dR ms) i (hop n (p.getD i pk0).f l)=dn at*
  generalize waiF n p (dR ms) l c t i=w at*
  have cH:=rHop_ok n hn (p.getD i pk0).f l
  generalize hop n (p.getD i pk0).f l=hh at*
  generalize n.fl.getD (p.getD i pk0).f.toNat fl0=fw at*
  generalize p.getD i pk0=x at*
  cases ao with
  |none=>
   have e:=hno fun⟨a,h1,_⟩=>by cases h1
   simp only [arrT]at cA
   (repeat' (conv=>whnf);first|refine⟨i,_,rfl,hg,?_⟩|refine aC ?_ ?_<;>intro<;>try omega|refine z2_O11 ?_|(refine aK [] cH ?_)|(refine aK [] cA ?_)|fail);all_goals try (conv=>whnf)
   all_goals exact⟨i+1,[0,1],by omega,by omega,by rw [e];(exact aL)⟩
  |some a=>
   simp only [arrT]at cA
   have h0:=(hab a rfl).2.2.2.2
   obtain⟨j,rfl⟩:∃m:Nat,hh=m:=⟨hh.toNat,by omega⟩
   replace hdn:=hdn j rfl
   have hy2:=fun(h1:a≤t) (h2:fw.cl=c) (h3:dR ms i j<0∨t≤dR ms i j)=>hy ⟨a,rfl,h1,h2,fun d' hd=>by
    rw [hdn]at hd
    split at hd
    ·cases hd
    ·injection hd with hd;omega⟩
   have hno2:=fun(h1:¬(a≤t∧fw.cl=c∧(dR ms i j<0∨t≤dR ms i j)))=>hno fun⟨a',e,h2,h3,h4⟩=>h1 ⟨by injection e with e;omega,h3,by
    by_cases c:dR ms i j<0
    ·exact .inl c
    ·rw [if_neg c]at hdn;exact .inr (h4 _ hdn)⟩
   clear hy hno hdn hab
   by_cases h1:i<ms.length
   ·have hgt:=trs_get (ms:=ms) (i:=i) h1
    have hrl:=hm.r i
    have hro:=fun j=>dR_out (ms:=ms) (i:=i) (j:=j)
    have hri:=fun j=>dR_in (ms:=ms) (i:=i) (j:=j)
    generalize ms.getD i []=row at*
    have hil2:=ints_len row
    by_cases h2:j<row.length
    ·have hgv:=ints_get (l:=row) (j:=j) h2
     rw [hri _ h2]at hgv
     generalize dR ms i j=v at*
     (repeat' (conv=>whnf);first|refine⟨j,_,rfl,hgv,?_⟩|refine⟨i,_,rfl,hgt,?_⟩|refine⟨x.f.toNat,_,by omega,hfg,?_⟩|refine⟨i,_,rfl,hg,?_⟩|refine aC ?_ ?_<;>intro<;>try omega|refine z2_O11 ?_|(refine aK [] cH ?_)|(refine aK [] cA ?_)|fail);all_goals try (conv=>whnf)
     all_goals first
      |exact⟨i+1,[0,1],by omega,by omega,by rw [hy2 (by omega) (by omega) (by omega)];(exact aL)⟩
      |exact⟨i+1,[0,1],by omega,by omega,by rw [hno2 (by omega)];(exact aL)⟩
      |trace_state
    ·have e:=hro j (.inr (by omega))
     rw [e]at hy2 hno2
     (repeat' (conv=>whnf);first|refine⟨i,_,rfl,hgt,?_⟩|refine⟨x.f.toNat,_,by omega,hfg,?_⟩|refine⟨i,_,rfl,hg,?_⟩|refine aC ?_ ?_<;>intro<;>try omega|refine z2_O11 ?_|(refine aK [] cH ?_)|(refine aK [] cA ?_)|fail);all_goals try (conv=>whnf)
     all_goals first
      |exact⟨i+1,[0,1],by omega,by omega,by rw [hy2 (by omega) (by omega) (by omega)];(exact aL)⟩
      |exact⟨i+1,[0,1],by omega,by omega,by rw [hno2 (by omega)];(exact aL)⟩
      |trace_state
   ·have e:=dR_out (ms:=ms) (i:=i) (j:=j) (.inl (by omega))
    rw [e]at hy2 hno2
    (repeat' (conv=>whnf);first|refine⟨x.f.toNat,_,by omega,hfg,?_⟩|refine⟨i,_,rfl,hg,?_⟩|refine aC ?_ ?_<;>intro<;>try omega|refine z2_O11 ?_|(refine aK [] cH ?_)|(refine aK [] cA ?_)|fail);all_goals try (conv=>whnf)
    all_goals first
     |exact⟨i+1,[0,1],by omega,by omega,by rw [hy2 (by omega) (by omega) (by omega)];(exact aL)⟩
     |exact⟨i+1,[0,1],by omega,by omega,by rw [hno2 (by omega)];(exact aL)⟩
     |trace_state
 ·obtain rfl:i=p.length:=by omega
  (repeat' (conv=>whnf);first|refine aC ?_ ?_<;>intro<;>try omega|refine z2_O11 ?_|fail);all_goals try (conv=>whnf)
  exact⟨rfl,rfl⟩
theorem z4_O11 {G H:Prop} (k:H) (h:H→G:=by first|exact fun r=>aS r|exact fun r=>aG r|exact fun r=>aD r|exact fun r=>aP_T1 r|exact fun r=>aI r|exact fun r=>aJ r|exact fun r=>aW (.qs [0,1,2,3,4,5,6,7,8] (.l 9 [8,6,1] (.l 10 [] .nil .no) .no)) r|exact fun r=>aW (.qs [0,1,2,3,4,5,6,7,8,9,10,11,12] .nil) r|exact fun r=>aW (.qs [0,1,2,3,4,5,6] (.l 7 [] (.qs [8,9,10,11,12] .nil) .no)) r):G:=h k
theorem z3_O11 {G H:Prop} (k:H) (h:H→G:=by first|exact fun r=>aS r|exact fun r=>aG r|exact fun r=>aD r|exact fun r=>aH r|exact fun r=>aP_T1 r|exact fun r=>aI r|exact fun r=>aJ r|exact fun r=>aW (.qs [0,1,2,3,4,5,6,7,8] (.l 9 [8,6,1] (.l 10 [] .nil .no) .no)) r|exact fun r=>aW (.qs [0,1,2,3,4,5,6,7,8,9,10,11,12] .nil) r|exact fun r=>aW (.qs [0,1,2,3,4,5,6] (.l 7 [] (.qs [8,9,10,11,12] .nil) .no)) r):G:=h k
theorem RVio_ok (n : Nt) (hn : NL n) (d : List (List Int)) (hd : DL d) (hS : ShapeP n d) (p : List Pk) (h : SkP n p) (ms : List (List Int)) (hm : MsL ms) :
    Ctr Tryz.prog 39 [ntv n, .psl 1 (dls d), .psl 3 (pks p), .agg [.psl 1 (trs ms)]] [] (fun r o => o = [] ∧ r = .psl 3 (vis (vioL n d p (dR ms)))) := by
  refine Ctr.imp ?_
  refine fI 0 Tryz.func39 ?_
  have h60 := h.l
  have hpl := pks_len p
  have hfl := fll n.fl
  have hdl := dls_len d
  have hd1 := hd.l
  (repeat' (conv => whnf); first | refine AsgOb.nil ?_ | refine aC ?_ ?_ <;> intro <;> try omega | refine z3_O11 ?_ | fail); all_goals try (conv => whnf)
  refine aK [] (rShape_ok n hn d hd) ?_
  (repeat' (conv => whnf); first | exact absurd hS (by assumption) | refine aC ?_ ?_ <;> intro <;> try omega | refine z3_O11 ?_ | fail); all_goals try (conv => whnf)
  refine aK [] (RChk_ok n hn p (by omega)) ?_
  rw [sck_zero.2 h]
  (repeat' (conv => whnf); first | exact absurd hS (by assumption) | refine aC ?_ ?_ <;> intro <;> try omega | refine z3_O11 ?_ | fail); all_goals try (conv => whnf)
  obtain ⟨K, hK⟩ : ∃ K, vioK n d p = K := ⟨_, rfl⟩
  have hvl : vioL n d p (dR ms) = (tell n p (dR ms) p.length).filter K := by rw [← hK]; rfl
  have htl := fun i hi => tell_len h (D := dR ms) i hi
  have hfil := fun (L : List Vi) => List.length_filter_le K L
  refine LoopOb.mk (Y := Nat) (st := fun i => ⟨[(10, i64 i), (9, .vec 2), (7, .ptr 1 0), (4, .ptr 0 0), (1, .psl 1 (dls d)), (2, .psl 3 (pks p))], [nbx n, .box [.psl 1 (trs ms)], .vec 3 (vis ((tell n p (dR ms) i).filter K))]⟩)
    (inv := fun i => i ≤ p.length) (fun i => p.length - i) 0 [0, 1, 2] (by omega) (by (exact aL)) ?_
  rintro i hi
  by_cases hil : i < p.length
  · have hg := pks_get hil
    obtain ⟨f1, f2, t1, t2, hRt, _⟩ := h.fl hil
    have hfg := flg (l := n.fl) (i := (p.getD i pk0).f.toNat) (by omega)
    have r4 := hRt.l2
    have r1 := hRt.l1
    have hRt2 := chk_fl hS.c (p.getD i pk0).f.toNat (by omega)
    have hdy := fun j hj => hS.dly hRt2 (i := j) hj
    have hrb := hRt2.b
    have hrc := hRt2.c
    have cD := fun k : Nat => RDel_ok n hn p (by omega) (fun i hi => by have := h.fl hi; omega) ms hm i k
    have cE := REnd_ok n hn p h ms hm i
    have cH := RHEnd_ok n hn d hd hS (p.getD i pk0).f
    have hts : ∀ k, tell n p (dR ms) i ++ hopL (fun i h => delO n p (dR ms) i h) i (k + 1) = (tell n p (dR ms) i ++ hopL (fun i h => delO n p (dR ms) i h) i k) ++ optL i k (delO n p (dR ms) i k) := fun k => by rw [hopL, List.append_assoc]
    have hte : tell n p (dR ms) (i + 1) = (tell n p (dR ms) i ++ hopL (fun i h => delO n p (dR ms) i h) i (pfl n (p.getD i pk0)).rt.length) ++ optL i (-1) (enO n p (dR ms) i) := by
      show tell n p (dR ms) i ++ (_ ++ _) = _
      rw [List.append_assoc]
    have hll := htl i hi
    have hhl : ∀ k, (hopL (fun i h => delO n p (dR ms) i h) i k).length ≤ k := fun k => by
      induction k with
      | zero => exact Nat.le_refl _
      | succ k ih => rw [hopL, List.length_append]; have : (optL i k (delO n p (dR ms) i k)).length ≤ 1 := by cases delO n p (dR ms) i k <;> simp [optL]
                     omega
    have hh0 : hopL (fun i h => delO n p (dR ms) i h) i 0 = [] := rfl
    have hKh : ∀ (k : Nat) x, K ⟨i, k, x⟩ = true ↔ (dly d (pfl n (p.getD i pk0)) k ≠ -1 ∧ dly d (pfl n (p.getD i pk0)) k < x) := fun k x => by
      rw [← hK]; unfold vioK; rw [decide_eq_true_iff, if_neg (by dsimp only; omega)]; simp only [Int.toNat_natCast]
    have hKe : ∀ x, K ⟨i, -1, x⟩ = true ↔ ∃ b, endO n d (p.getD i pk0).f = some b ∧ b < x := fun x => by
      rw [← hK]; unfold vioK; rw [decide_eq_true_iff, if_pos (by dsimp only; omega)]
    generalize hG : (fun k => hopL (fun i h => delO n p (dR ms) i h) i k) = G at *
    have hGk : ∀ k, hopL (fun i h => delO n p (dR ms) i h) i k = G k := fun k => by rw [← hG]
    simp only [hGk] at hts hte hhl hh0
    generalize tell n p (dR ms) i = TL at *
    generalize enO n p (dR ms) i = eO at *
    have hGl : ∀ k, (TL ++ G k).length ≤ 5 * i + k := fun k => by rw [List.length_append]; have := hhl k; omega
    clear hhl hGk htl
    unfold pfl at *
    generalize n.fl.getD (p.getD i pk0).f.toNat fl0 = fw at *
    have hrl := ints_len fw.rt
    generalize p.getD i pk0 = x at *
    (repeat' (conv => whnf); first | refine ⟨x.f.toNat, _, by omega, hfg, ?_⟩ | refine ⟨i, _, rfl, hg, ?_⟩ | refine aC ?_ ?_ <;> intro <;> try omega | refine z3_O11 ?_ | fail); all_goals try (conv => whnf)
    refine LoopOb.mk (Y := Nat) (st := fun k => ⟨[(12, i64 k), (11, .ptr 3 0), (10, i64 i), (9, .vec 2), (7, .ptr 1 0), (4, .ptr 0 0), (1, .psl 1 (dls d)), (2, .psl 3 (pks p))], [nbx n, .box [.psl 1 (trs ms)], .vec 3 (vis ((TL ++ G k).filter K)), .box (flv fw)]⟩)
      (inv := fun k => k ≤ fw.rt.length) (fun k => fw.rt.length - k) 0 [0, 1, 2, 3] (by omega) (by rw [hh0, List.append_nil]; (exact aL)) ?_
    rintro k hk
    have hV := hfil (TL ++ G k)
    have hV2 := hGl k
    have hvl2 := vis_len ((TL ++ G k).filter K)
    by_cases hkl : k < fw.rt.length
    · have cDk := cD k
      have hGs := hts k
      have hKk := fun x => hKh k x
      obtain ⟨d1, d2, d3, d4⟩ := hdy k hkl
      have b1 := hrb k hkl
      have c1 := hrc k hkl
      have grt := ints_get (l := fw.rt) (j := k) hkl
      have gdl := dls_get (d := d) (i := (fw.rt.getD k 0).toNat) d1
      have gdd := ints_get (l := d.getD (fw.rt.getD k 0).toNat []) (j := fw.cl.toNat) d2
      have hil2 := ints_len (d.getD (fw.rt.getD k 0).toNat [])
      have hrw := hd.r (fw.rt.getD k 0).toNat
      unfold dly at hKk d3 d4
      clear cD hts hKh hdy hrb hrc hRt2 hte hKe
      generalize fw.rt.getD k 0 = v at *
      generalize d.getD v.toNat [] = row at *
      generalize row.getD fw.cl.toNat 0 = z at *
      have hnx : (TL ++ G (k + 1)).filter K = (TL ++ G k).filter K ++ (optL i k (delO n p (dR ms) i k)).filter K := by rw [hGs, List.filter_append]
      generalize (TL ++ G k).filter K = V at *
      cases hdo : delO n p (dR ms) i k with
      | none =>
        rw [hdo] at cDk hnx
        simp only [arrT, optL, List.filter_nil, List.append_nil] at cDk hnx
        (repeat' (conv => whnf); first | refine ⟨fw.cl.toNat, _, by omega, gdd, ?_⟩ | refine ⟨v.toNat, _, by omega, gdl, ?_⟩ | refine ⟨k, _, rfl, grt, ?_⟩ | refine aC ?_ ?_ <;> intro <;> try omega | refine z3_O11 ?_ | (refine aK [] (cDk) ?_) | fail); all_goals try (conv => whnf)
        all_goals first
          | exact ⟨k + 1, [0, 1, 2, 3], by omega, by omega, by rw [hnx]; (exact aL)⟩
          | (exfalso; omega)
          | (exfalso; assumption)
          | trace_state
      | some y =>
        rw [hdo] at cDk hnx
        simp only [arrT, optL] at cDk hnx
        by_cases hc : z ≠ -1 ∧ z < y
        · rw [List.filter_cons_of_pos ((hKk y).2 hc), List.filter_nil] at hnx
          (repeat' (conv => whnf); first | refine ⟨fw.cl.toNat, _, by omega, gdd, ?_⟩ | refine ⟨v.toNat, _, by omega, gdl, ?_⟩ | refine ⟨k, _, rfl, grt, ?_⟩ | refine aC ?_ ?_ <;> intro <;> try omega | refine z3_O11 ?_ | (refine aK [] (cDk) ?_) | fail); all_goals try (conv => whnf)
          all_goals first
            | exact ⟨k + 1, [0, 1, 5, 3], by omega, by omega, by rw [hnx, vis_app]; (exact aL)⟩
            | (exfalso; omega)
            | (exfalso; assumption)
            | trace_state
        · rw [List.filter_cons_of_neg (fun c => hc ((hKk y).1 c)), List.filter_nil, List.append_nil] at hnx
          (repeat' (conv => whnf); first | refine ⟨fw.cl.toNat, _, by omega, gdd, ?_⟩ | refine ⟨v.toNat, _, by omega, gdl, ?_⟩ | refine ⟨k, _, rfl, grt, ?_⟩ | refine aC ?_ ?_ <;> intro <;> try omega | refine z3_O11 ?_ | (refine aK [] (cDk) ?_) | fail); all_goals try (conv => whnf)
          all_goals first
            | exact ⟨k + 1, [0, 1, 2, 3], by omega, by omega, by rw [hnx]; (exact aL)⟩
            | (exfalso; omega)
            | (exfalso; assumption)
            | trace_state
    · obtain rfl : k = fw.rt.length := by omega
      have hnx : (tell n p (dR ms) (i + 1)).filter K = (TL ++ G fw.rt.length).filter K ++ (optL i (-1) eO).filter K := by rw [hte, List.filter_append]
      clear cD hts hKh hdy hrb hrc hRt2 hte hG
      generalize (TL ++ G fw.rt.length).filter K = V at *
      cases eO with
      | none =>
        simp only [arrT, optL, List.filter_nil, List.append_nil] at cE hnx
        generalize endO n d x.f = bO at *
        cases bO with
        | none =>
          simp only [arrT] at cH
          (repeat' (conv => whnf); first | refine DrawOb.mk [] (.qs [0, 1, 2, 3, 4, 5, 6] (.l 7 [] (.qs [8, 9, 10, 11, 12] .nil) .no)) (by decide +kernel) ?_ | refine ⟨i, _, rfl, hg, ?_⟩ | refine aC ?_ ?_ <;> intro <;> try omega | refine z3_O11 ?_ | (refine aK [] (cE) ?_) | (refine aK [] (cH) ?_) | fail); all_goals try (conv => whnf)
          all_goals first
            | exact ⟨i + 1, [0, 1, 2], by omega, by omega, by rw [hnx]; (exact aL)⟩
            | (exfalso; omega)
            | (exfalso; assumption)
            | trace_state
        | some b =>
          simp only [arrT] at cH
          (repeat' (conv => whnf); first | refine DrawOb.mk [] (.qs [0, 1, 2, 3, 4, 5, 6] (.l 7 [] (.qs [8, 9, 10, 11, 12] .nil) .no)) (by decide +kernel) ?_ | refine ⟨i, _, rfl, hg, ?_⟩ | refine aC ?_ ?_ <;> intro <;> try omega | refine z3_O11 ?_ | (refine aK [] (cE) ?_) | (refine aK [] (cH) ?_) | fail); all_goals try (conv => whnf)
          all_goals first
            | exact ⟨i + 1, [0, 1, 2], by omega, by omega, by rw [hnx]; (exact aL)⟩
            | (exfalso; omega)
            | (exfalso; assumption)
            | trace_state
      | some y =>
        simp only [arrT, optL] at cE hnx
        generalize endO n d x.f = bO at *
        cases bO with
        | none =>
          rw [List.filter_cons_of_neg (fun c => by obtain ⟨b, e, _⟩ := (hKe y).1 c; cases e), List.filter_nil, List.append_nil] at hnx
          simp only [arrT] at cH
          (repeat' (conv => whnf); first | refine DrawOb.mk [] (.qs [0, 1, 2, 3, 4, 5, 6] (.l 7 [] (.qs [8, 9, 10, 11, 12] .nil) .no)) (by decide +kernel) ?_ | refine ⟨i, _, rfl, hg, ?_⟩ | refine aC ?_ ?_ <;> intro <;> try omega | refine z3_O11 ?_ | (refine aK [] (cE) ?_) | (refine aK [] (cH) ?_) | fail); all_goals try (conv => whnf)
          all_goals first
            | exact ⟨i + 1, [0, 1, 2], by omega, by omega, by rw [hnx]; (exact aL)⟩
            | (exfalso; omega)
            | (exfalso; assumption)
            | trace_state
        | some b =>
          simp only [arrT] at cH
          by_cases hc : b < y
          · rw [List.filter_cons_of_pos ((hKe y).2 ⟨b, rfl, hc⟩), List.filter_nil] at hnx
            (repeat' (conv => whnf); first | refine DrawOb.mk [] (.qs [0, 1, 2, 3, 4, 5, 6] (.l 7 [] (.qs [8, 9, 10, 11, 12] .nil) .no)) (by decide +kernel) ?_ | refine ⟨i, _, rfl, hg, ?_⟩ | refine aC ?_ ?_ <;> intro <;> try omega | refine z3_O11 ?_ | (refine aK [] (cE) ?_) | (refine aK [] (cH) ?_) | fail); all_goals try (conv => whnf)
            all_goals first
              | exact ⟨i + 1, [0, 1, 5], by omega, by omega, by rw [hnx, vis_app]; (exact aL)⟩
              | (exfalso; omega)
              | (exfalso; assumption)
              | trace_state
          · rw [List.filter_cons_of_neg (fun c => by obtain ⟨b', e, c2⟩ := (hKe y).1 c; injection e with e; omega), List.filter_nil, List.append_nil] at hnx
            (repeat' (conv => whnf); first | refine DrawOb.mk [] (.qs [0, 1, 2, 3, 4, 5, 6] (.l 7 [] (.qs [8, 9, 10, 11, 12] .nil) .no)) (by decide +kernel) ?_ | refine ⟨i, _, rfl, hg, ?_⟩ | refine aC ?_ ?_ <;> intro <;> try omega | refine z3_O11 ?_ | (refine aK [] (cE) ?_) | (refine aK [] (cH) ?_) | fail); all_goals try (conv => whnf)
            all_goals first
              | exact ⟨i + 1, [0, 1, 2], by omega, by omega, by rw [hnx]; (exact aL)⟩
              | (exfalso; omega)
              | (exfalso; assumption)
              | trace_state
  · obtain rfl : i = p.length := by omega
    rw [hvl]
    (repeat' (conv => whnf); first | refine aC ?_ ?_ <;> intro <;> try omega | refine z4_O11 ?_ | fail); all_goals try (conv => whnf)
    refine .mk [.fz 2] ?_
    (repeat' (conv => whnf); first | refine aC ?_ ?_ <;> intro <;> try omega | refine z3_O11 ?_ | fail); all_goals try (conv => whnf)
    exact ⟨rfl, Imp.refl _⟩
end Go.Proofs.YtaomhdljcdadaaaGreat
