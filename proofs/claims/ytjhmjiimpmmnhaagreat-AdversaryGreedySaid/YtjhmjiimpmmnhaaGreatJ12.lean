/- Lemmas of this seat. Conditions: as stated. -/
import Derived.Test.YtjhmjiimpmmnhaaGreatGn
import Derived.Test.YtjhmjiimpmmnhaaGreatKq
import Derived.Test.YtjhmjiimpmmnhaaGreatPl
set_option linter.unusedVariables false
set_option linter.unusedSimpArgs false
set_option maxHeartbeats 2000000
set_option maxRecDepth 4000
namespace Go.Proofs.YtjhmjiimpmmnhaaGreat
open Go.Sx Go.Cv Go.Gd Go.Np
theorem stv_get {b:Int} {p j:Nat}:(stv b p).getD j 0=if j=0∨p<j then 0 else b:=by
 unfold stv
 cases j with
 |zero=>rw [if_pos (.inl rfl)];rfl
 |succ j=>
  rw [List.getD_cons_succ,List.getD_eq_getElem?_getD,List.getElem?_replicate]
  by_cases h:j<p
  ·rw [if_pos h,if_neg (by omega)];rfl
  ·rw [if_neg h,if_pos (by omega)];rfl
theorem stv_le {b w q:Int} {p:Nat} (hp:1≤p) (hb:0≤b∧b≤1000) (hw:0≤w∧w≤1000) (t:Nat):val (stv b p) p q t≤val (stv (b+w) p) p q t:=by
 have hl:∀x,(stv x p).length =p+1:=fun x=>by simp [stv]
 unfold val
 rw [hl,hl,stv_get,stv_get,stv_get,stv_get]
 simp only [INF]
 by_cases h1:t<p+1
 ·rw [if_pos h1,if_pos h1];split<;>omega
 ·rw [if_neg h1,if_neg h1]
  generalize ((((t-(p+1))/p+1:Nat):Int))*q=K
  split
  ·split<;>omega
  ·split
   ·split<;>omega
   ·split<;>omega
theorem stv_bd {b q:Int} {p:Nat} (hp:1≤p) (hb:0≤b∧b≤1000) (hq:0≤q∧q≤3) (t:Nat) (ht:t≤1000):0≤val (stv b p) p q t∧val (stv b p) p q t≤10000:=by
 have hl:(stv b p).length =p+1:=by simp [stv]
 unfold val
 rw [hl,stv_get,stv_get]
 simp only [INF]
 have hk:(t-(p+1))/p+1≤1001:=by have:=Nat.div_le_self (t-(p+1)) p;omega
 generalize (t-(p+1))/p+1=k at*
 have h0:0≤(k:Int)*q:=Int.mul_nonneg (by omega) hq.1
 have h1:(k:Int)*q≤1001*3:=Int.mul_le_mul (by omega) hq.2 hq.1 (by omega)
 split
 ·split<;>omega
 ·split<;>(split<;>omega)
def mxV (b w:Int) (p i:Nat):List Int:=(List.range (p+1)).map fun j=>if j=0 then 0 else if j<i then b+w else b
theorem mxV_len {b w:Int} {p i:Nat}:(mxV b w p i).length =p+1:=by simp [mxV]
theorem mxV_get {b w:Int} {p i j:Nat} (h:j<p+1):(mxV b w p i).getD j 0=if j=0 then 0 else if j<i then b+w else b:=by
 simp [mxV,List.getD_eq_getElem?_getD,h]
theorem mxV_stv {b w x:Int} {p i:Nat} (h:∀j,0<j→j≤p→(if j<i then b+w else b)=x):mxV b w p i=stv x p:=by
 refine List.ext_getElem (by simp [mxV,stv]) fun j h1 h2=>?_
 have e1:=mxV_get (b:=b) (w:=w) (p:=p) (i:=i) (j:=j) (by simpa [mxV]using h1)
 have e2:=stv_get (b:=x) (p:=p) (j:=j)
 rw [List.getD_eq_getElem?_getD,List.getElem?_eq_getElem h1]at e1
 rw [List.getD_eq_getElem?_getD,List.getElem?_eq_getElem h2]at e2
 simp only [Option.getD_some]at e1 e2
 have hj:j<p+1:=by simpa [mxV]using h1
 by_cases h0:j=0
 ·rw [e1,e2,if_pos h0,if_pos (.inl h0)]
 ·rw [e1,if_neg h0,h j (by omega) (by omega),e2,if_neg (by omega)]
theorem mxV_set {b w:Int} {p i:Nat} (h0:0<i) (hi:i<p+1):(mxV b w p i).set i (b+w)=mxV b w p (i+1):=by
 refine List.ext_getElem (by simp [mxV]) fun j h1 h2=>?_
 rw [List.getElem_set]
 simp only [mxV,List.getElem_map,List.getElem_range]
 split
 ·rw [if_neg (by omega),if_pos (by omega)]
 ·split
  ·rfl
  ·split
   ·rw [if_pos (by omega)]
   ·rw [if_neg (by omega)]
theorem z2_J12 {G H:Prop} (k:H) (h:H→G:=by first|exact fun r=>aS r|exact fun r=>aG r|exact fun r=>aD r|exact fun r=>aP_Vc r|exact fun r=>aI r|exact fun r=>aJ r|exact fun r=>aW (.qs [0,1,2,3,4,5,6,7,8,9,10,11,12,13,14,15,16] (.l 17 [] (.qs [18] .nil) .no)) r|exact fun r=>aW (.qs [0,1,2,3,4,5,6,7,8,9,10,11,12,13,14,15,16,17] (.l 18 [] (.qs [19,20,21] .nil) .no)) r|exact fun r=>aW (.qs [0,1,2,3,4,5,6,7,8] .nil) r):G:=h k
theorem z1_J12 {G H:Prop} (k:H) (h:H→G:=by first|exact fun r=>aS r|exact fun r=>aG r|exact fun r=>aD r|exact fun r=>aH r|exact fun r=>aP_Vc r|exact fun r=>aI r|exact fun r=>aJ r|exact fun r=>aW (.qs [0,1,2,3,4,5,6,7,8,9,10,11,12,13,14,15,16] (.l 17 [] (.qs [18] .nil) .no)) r|exact fun r=>aW (.qs [0,1,2,3,4,5,6,7,8,9,10,11,12,13,14,15,16,17] (.l 18 [] (.qs [19,20,21] .nil) .no)) r|exact fun r=>aW (.qs [0,1,2,3,4,5,6,7,8] .nil) r):G:=h k
theorem gLaw_ok (l:List Int) (hl:l.length≤9223372036854775807) (m:Int) (hm:0≤m∧m≤255):
  Ctr Tryz.prog 4 [.psl 1 (ints l), .num .u8 m] [] (fun r o=>r= .bl true):=by
 refine fI 0 Tryz.func4 ?_
 have hil:=ints_len l
 (repeat' (conv=>whnf);first|refine aC ?_ ?_<;>intro _|refine z1_J12 ?_|(refine aK [] (sane37_ok) ?_)|fail);all_goals try (conv=>whnf)
 all_goals try rfl
 have hL:(l.take 2000).length ≤2000:=by rw [List.length_take];omega
 refine aK [] (New_ok l hl) ?_
 (repeat' (conv=>whnf);first|refine aC ?_ ?_<;>intro<;>try omega|refine z1_J12 ?_|fail);all_goals try (conv=>whnf)
 refine aM [0] (Contract_ok _ 0 hL (by omega)) rfl rfl ?_
 rintro _ _ ⟨⟨⟨b,p,q⟩,k1⟩,⟨hb,hp,hq,hk1⟩,rfl,rfl⟩
 dsimp only at hb hp hq hk1⊢
 (repeat' (conv=>whnf);first|refine aC ?_ ?_<;>intro<;>try omega|refine z1_J12 ?_|fail);all_goals try (conv=>whnf)
 refine aM [0] (Range_ok _ k1 hL hk1 1 8 (by omega) (by omega) (by omega)) rfl rfl ?_
 rintro _ _ ⟨⟨s,k2⟩,⟨hs1,hs2,hk2⟩,rfl,rfl⟩
 dsimp only at hs1 hs2 hk2⊢
 (repeat' (conv=>whnf);first|refine aC ?_ ?_<;>intro<;>try omega|refine z1_J12 ?_|fail);all_goals try (conv=>whnf)
 refine aM [0] (N_ok _ k2 hL hk2 10 (by omega) (by omega)) rfl rfl ?_
 rintro _ _ ⟨⟨o,k3⟩,⟨ho1,ho2,hk3⟩,rfl,rfl⟩
 dsimp only at ho1 ho2 hk3⊢
 have vV:VF (stv b p) p q:=(stair_vf (b:=b) (p:=p) (q:=q) hp.1 (by omega) (by omega) (by omega) (by omega) (by omega)).1
 have hVb:=fun t ht=>stv_bd (b:=b) (q:=q) hp.1 (by omega) hq t ht
 have hVA:=fun t:Nat=>kAt_ok (stv b p) p q vV t
 have cG:=Greedy_ok (stv b p) p q s o 8
 have eG:greG (stv b p) p q s o 8=(gre (val (stv b p) p q) s 8 [] o,0):=by
  unfold greG
  rw [if_neg (fun c=>c vV.valid),if_neg (by omega)];rfl
 obtain⟨u,gG,gE⟩:=gre_sp (val (stv b p) p q) s 8 o
 have hG:=gl_ok gG
 rw [eG]at cG
 generalize gre (val (stv b p) p q) s 8 [] o=G at*
 have hGl:=ints_len G
 have hG8:=hG.l
 dsimp only at cG
 (repeat' (conv=>whnf);first|refine aC ?_ ?_<;>intro<;>try omega|refine z1_J12 ?_|(refine aK [] (cG) ?_)|fail);all_goals try (conv=>whnf)
 refine LoopOb.mk (Y:=Nat) (st:=fun i=>⟨[(44,i64 i),(43,i64 (ints G).length),(42, .psl 1 (ints G)),(9, .psl 1 (ints G)),(8,i64 o),(7,i64 s),(6, .ptr 0 0),(1, .num .u8 m)],[.box [.psl 1 (ints (stv b p)),i64 p,i64 q]]⟩)
  (inv:=fun i=>i≤G.length) (fun i=>G.length-i) 0 [1] (by omega) (by(exact aL)) ?_
 rintro i hi
 by_cases hiG:i<G.length
 ·have hgi:=ints_get (l:=G) (j:=i) hiG
  have hbi:=hG.b i hiG
  (repeat' (conv=>whnf);first|refine aC ?_ ?_<;>intro<;>try omega|refine z1_J12 ?_|fail);all_goals try (conv=>whnf)
  have hst:∀k:Nat,k≤i→0≤((i:Int)-k+1)*s∧((i:Int)-k+1)*s≤72:=fun k hk=>by
   have:((i:Int)-k+1)*s≤9*8:=Int.mul_le_mul (by omega) (by omega) (by omega) (by omega)
   exact⟨Int.mul_nonneg (by omega) (by omega),by omega⟩
  refine LoopOb.mk (Y:=Nat) (st:=fun k=>⟨[(12,i64 k),(11,i64 i),(44,i64 i),(43,i64 (ints G).length),(42, .psl 1 (ints G)),(9, .psl 1 (ints G)),(8,i64 o),(7,i64 s),(6, .ptr 0 0),(1, .num .u8 m)],[.box [.psl 1 (ints (stv b p)),i64 p,i64 q]]⟩)
   (inv:=fun k=>k≤i+1) (fun k=>i+1-k) 0 [0] (by omega) (by(exact aL)) ?_
  rintro k hk
  by_cases hki:k≤i
  ·have hgk:=ints_get (l:=G) (j:=k) (by omega)
   have hbk:=hG.b k (by omega)
   have hmk:=hG.m i k hki hiG
   have hkk:=hG.k i k hki hiG
   have cA:=hVA (G.getD i 0-G.getD k 0+1).toNat (by omega)
   have hvb:=hVb (G.getD i 0-G.getD k 0+1).toNat (by omega)
   have hms:=hst k hki
   generalize G.getD k 0=gk at*
   generalize G.getD i 0=gi at*
   generalize val (stv b p) p q (gi-gk+1).toNat =va at*
   (repeat' (conv=>whnf);first|refine⟨k,_,rfl,hgk,?_⟩|refine⟨i,_,rfl,hgi,?_⟩|refine aC ?_ ?_<;>intro<;>try omega|refine z1_J12 ?_|(refine CallOb.mk [] cA rfl ⟨Imp.refl _,Imp.num (by omega),trivial⟩ rfl rfl ?_;rintro _ _ ⟨rfl,rfl⟩)|fail);all_goals try (conv=>whnf)
   exact⟨k+1,[0],by omega,by omega,by(exact aL)⟩
  ·obtain rfl:k=i+1:=by omega
   have hgl:=ints_get (l:=G) (j:=i-1) (by omega)
   have hbl:=hG.b (i-1) (by omega)
   have hlf:=hG.f i hiG
   have hlw:=hG.w i hiG
   have hl0:i=0→lstT o G i=o:=fun h=>if_pos h
   have hl1:0<i→lstT o G i=G.getD (i-1) 0:=fun h=>if_neg (by omega)
   have hgg:i=0→G.getD (i-1) 0=G.getD i 0:=fun h=>by subst h;rfl
   generalize lstT o G i=ls at*
   generalize hgie:G.getD i 0=gi at*
   generalize G.getD (i-1) 0=gl at*
   have cA:=hVA 1 (by decide)
   generalize hv1:val (stv b p) p q 1=v1 at*
   (repeat' (conv=>whnf);first|refine⟨i-1,_,by omega,hgl,?_⟩|refine⟨i,_,rfl,hgi,?_⟩|refine aC ?_ ?_<;>intro<;>try omega|refine z1_J12 ?_|(refine CallOb.mk [] cA rfl ⟨Imp.refl _,Imp.num (by omega),trivial⟩ rfl rfl ?_;rintro _ _ ⟨rfl,rfl⟩)|fail);all_goals try (conv=>whnf)
   all_goals try exact⟨i+1,[0],by omega,by omega,by(exact aL)⟩
   all_goals
    have hw:=hlw (by omega)
    refine LoopOb.mk (Y:=Nat×Prop) (st:=fun y=>⟨[(15,i64 y.1),(14, .bp y.2),(11,i64 i),(44,i64 i),(43,i64 (ints G).length),(42, .psl 1 (ints G)),(9, .psl 1 (ints G)),(8,i64 o),(7,i64 s),(6, .ptr 0 0),(1, .num .u8 m)],[.box [.psl 1 (ints (stv b p)),i64 p,i64 q]]⟩)
     (inv:=fun y=>y.1≤i∧(y.2↔(v1<s∨∃k,k<y.1∧val (stv b p) p q (gi-G.getD k 0).toNat <((i:Int)-k+1)*s))) (fun y=>i-y.1) (0,v1<s) [0] ⟨by simp,by simp⟩ (by(exact aL)) ?_
    rintro⟨k,B⟩ ⟨hk,hB⟩
    dsimp only at hk hB⊢
    by_cases hki:k<i
    ·have hgk:=ints_get (l:=G) (j:=k) (by omega)
     have hbk:=hG.b k (by omega)
     have hmk:=hG.m i k (by omega) hiG
     rw [hgie]at hmk
     have cA:=hVA (gi-G.getD k 0).toNat (by omega)
     have hvb:=hVb (gi-G.getD k 0).toNat (by omega)
     have hms:=hst k (by omega)
     have hyes:B→(True↔(v1<s∨∃j,j<k+1∧val (stv b p) p q (gi-G.getD j 0).toNat <((i:Int)-j+1)*s)):=fun h=>⟨fun _=>(hB.1 h).imp id fun⟨j,h1,h2⟩=>⟨j,by omega,h2⟩,fun _=>trivial⟩
     have hno:¬B→(val (stv b p) p q (gi-G.getD k 0).toNat <((i:Int)-k+1)*s↔(v1<s∨∃j,j<k+1∧val (stv b p) p q (gi-G.getD j 0).toNat <((i:Int)-j+1)*s)):=fun h=>⟨fun hlt=> .inr ⟨k,by omega,hlt⟩,fun hor=>by
      rcases hor with h1|⟨j,h1,h2⟩
      ·exact absurd (hB.2 (.inl h1)) h
      ·by_cases e:j=k
       ·subst e;exact h2
       ·exact absurd (hB.2 (.inr ⟨j,by omega,h2⟩)) h⟩
     generalize G.getD k 0=gk at*
     generalize val (stv b p) p q (gi-gk).toNat =va at*
     (repeat' (conv=>whnf);first|refine⟨k,_,rfl,hgk,?_⟩|refine⟨i,_,rfl,hgi,?_⟩|refine aC ?_ ?_<;>intro<;>try omega|refine z1_J12 ?_|(refine CallOb.mk [] cA rfl ⟨Imp.refl _,Imp.num (by omega),trivial⟩ rfl rfl ?_;rintro _ _ ⟨rfl,rfl⟩)|fail);all_goals try (conv=>whnf)
     all_goals first
      |exact⟨(k+1,True),[0],⟨by dsimp only;omega,hyes (by assumption)⟩,by dsimp only;omega,by(exact aL)⟩
      |exact⟨(k+1,va<((i:Int)-k+1)*s),[0],⟨by dsimp only;omega,hno (by assumption)⟩,by dsimp only;omega,by(exact aL)⟩
    ·obtain rfl:k=i:=by omega
     have hBt:=hB.2 hw
     (repeat' (conv=>whnf);first|refine aC ?_ ?_<;>intro<;>try omega|refine z1_J12 ?_|fail);all_goals try (conv=>whnf)
     all_goals first
      |exact absurd hBt (by assumption)
      |exact⟨k+1,[0],by omega,by omega,by(exact aL)⟩
 ·obtain rfl:i=G.length:=by omega
  have hvl:(ints (stv b p)).length =p+1:=by simp [stv]
  (repeat' (conv=>whnf);first|refine aC ?_ ?_<;>intro<;>try omega|refine z1_J12 ?_|refine And.intro (by refine⟨?_,?_⟩<;>(simp only [hvl];omega)) ?_|fail);all_goals try (conv=>whnf)
  have hw:=tmod_bd (a:=m) (b:=20) hm.1 (by decide)
  have h0:=mxV_stv (b:=b) (w:=m.tmod 20) (x:=b) (p:=p) (i:=1) fun j h1 h2=>if_neg (by omega)
  have h1:=mxV_stv (b:=b) (w:=m.tmod 20) (x:=b+m.tmod 20) (p:=p) (i:=p+1) fun j h1 h2=>if_pos (by omega)
  obtain⟨w,hwe⟩:∃w,m.tmod 20=w:=⟨_,rfl⟩
  rw [hwe]at hw h0 h1
  rw [←h0]
  refine LoopOb.mk (Y:=Nat) (st:=fun i=>⟨[(17,i64 i),(16, .ptr 0 0),(9, .psl 1 (ints G)),(8,i64 o),(7,i64 s),(1, .num .u8 m)],[.box [.vec 1,i64 p,i64 q], .vec 1 (ints (mxV b w p i))]⟩)
   (inv:=fun i=>1≤i∧i≤p+1) (fun i=>p+1-i) 1 [1,2] ⟨by omega,by omega⟩ (by(exact aL)) ?_
  rintro i ⟨hi1,hi2⟩
  have hml:=mxV_len (b:=b) (w:=w) (p:=p) (i:=i)
  have hml2:=ints_len (mxV b w p i)
  by_cases hip:i<p+1
  ·have hg:=ints_get (l:=mxV b w p i) (j:=i) (by omega)
   rw [mxV_get hip,if_neg (by omega),if_neg (by omega)]at hg
   have hset:=mxV_set (b:=b) (w:=w) (p:=p) (i:=i) (by omega) hip
   generalize mxV b w p i=M at*
   (repeat' (conv=>whnf);first|refine⟨_,hg,?_⟩|refine⟨i,rfl,by omega,?_⟩|refine aC ?_ ?_<;>intro<;>try omega|refine z1_J12 ?_|refine And.intro (by decide) ?_|fail);all_goals try (conv=>whnf)
   exact⟨i+1,[0,1],⟨by omega,by omega⟩,by omega,by rw [←hset,show ints (M.set i (b+w))=(ints M).set i [i64 (b+w)]by simp [ints],←hwe];(exact aL)⟩
  ·obtain rfl:i=p+1:=by omega
   rw [h1]
   have vW:VF (stv (b+w) p) p q:=(stair_vf (b:=b+w) (p:=p) (q:=q) hp.1 (by omega) (by omega) (by omega) (by omega) (by omega)).1
   have cH:=Greedy_ok (stv (b+w) p) p q s o 8
   have eH:greG (stv (b+w) p) p q s o 8=(gre (val (stv (b+w) p) p q) s 8 [] o,0):=by
    unfold greG
    rw [if_neg (fun c=>c vW.valid),if_neg (by omega)];rfl
   obtain⟨u2,gH,gHE⟩:=gre_sp (val (stv (b+w) p) p q) s 8 o
   obtain⟨m1,m2⟩:=gre_more gG gH gHE fun x y hxy=>Int.le_trans (stv_le hp.1 (by omega) (by omega) x) (vW.mono'.le hxy)
   rw [eH]at cH
   generalize gre (val (stv (b+w) p) p q) s 8 [] o=H at*
   dsimp only at cH
   have hHl:=ints_len H
   have hwl:(ints (stv (b+w) p)).length =p+1:=by simp [stv]
   (repeat' (conv=>whnf);first|refine aC ?_ ?_<;>intro<;>try omega|refine z2_J12 ?_|fail);all_goals try (conv=>whnf)
   refine .mk [.fz 1] ?_
   (conv=>whnf)
   refine aK [] cH ?_
   (repeat' (conv=>whnf);first|refine aC ?_ ?_<;>intro<;>try omega|refine z1_J12 ?_|fail);all_goals try (conv=>whnf)
   refine LoopOb.mk (Y:=Nat) (st:=fun i=>⟨[(164,i64 i),(163,i64 (ints G).length),(18, .psl 1 (ints H)),(9, .psl 1 (ints G))],[]⟩)
    (inv:=fun i=>i≤G.length) (fun i=>G.length-i) 0 [] (by omega) (by(exact aL)) ?_
   rintro i hi
   by_cases hiG:i<G.length
   ·have hg:=ints_get (l:=G) (j:=i) hiG
    have hh:=ints_get (l:=H) (j:=i) (by omega)
    have hle:=m2 i hiG
    generalize G.getD i 0=x at*
    generalize H.getD i 0=y at*
    (repeat' (conv=>whnf);first|refine⟨i,_,rfl,hh,?_⟩|refine⟨i,_,rfl,hg,?_⟩|refine aC ?_ ?_<;>intro<;>try omega|refine z1_J12 ?_|fail);all_goals try (conv=>whnf)
    exact⟨i+1,[],by omega,by omega,by(exact aL)⟩
   ·obtain rfl:i=G.length:=by omega
    (repeat' (conv=>whnf);first|refine aC ?_ ?_<;>intro<;>try omega|refine z1_J12 ?_|(refine aK [] (sane37_ok) ?_)|fail);all_goals try (conv=>whnf)
    all_goals rfl
end Go.Proofs.YtjhmjiimpmmnhaaGreat
