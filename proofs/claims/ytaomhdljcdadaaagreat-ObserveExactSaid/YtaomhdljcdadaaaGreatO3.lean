/- Lemmas of this seat. Conditions: as stated. -/
import Derived.Test.YtaomhdljcdadaaaGreatO2
import Derived.Test.YtaomhdljcdadaaaGreatX1
import Derived.Test.YtaomhdljcdadaaaGreatSxR
set_option linter.unusedVariables false
set_option linter.unusedSimpArgs false
set_option maxHeartbeats 2000000
set_option maxRecDepth 4000
namespace Go.Proofs.YtaomhdljcdadaaaGreat
section
open Go.Sx Go.Pk Go.Mc Go.Np
theorem Sent_ok (n:Nt) (p:List Pk) (ms:List (List Int)):Ctr Tryz.prog 80 [ntv n, .psl 3 (pks p), .agg [.psl 1 (trs ms)]] [] (fun r o=>o=[]∧r= .fn 110 [.pptr [.psl 3 (pks p)], .pptr [.psl 1 (strs n.nm), .psl 5 (lns n.ln), .psl 8 (fls n.fl)], .pptr [.psl 1 (trs ms)]]):=by
 refine fI 0 Tryz.func80 ?_
 (repeat' (conv=>whnf);first|refine aC ?_ ?_<;>intro<;>try omega|refine z1_T1 ?_|fail);all_goals try (conv=>whnf)
 refine .mk [.fb 0, .fb 1, .fb 2] ?_
 (repeat' (conv=>whnf);first|refine aC ?_ ?_<;>intro<;>try omega|refine z2_T1 ?_|fail);all_goals try (conv=>whnf)
 exact⟨rfl,rfl⟩
abbrev viw (v:Vi):List SV:=[i64 v.k,i64 v.h,i64 v.x]
abbrev vis (l:List Vi):List (List SV):=l.map viw
theorem vis_len (l:List Vi):(vis l).length =l.length:=by simp [vis]
theorem vis_app (l:List Vi) (v:Vi):vis (l++[v])=vis l++[viw v]:=by simp [vis]
noncomputable def tell (n:Nt) (p:List Pk) (D:Tp) (i:Nat):List Vi:=allL (fun i h=>delO n p D i h) (fun i=>enO n p D i) (fun i=>(pfl n (p.getD i pk0)).rt.length) i
abbrev voA (pre:List Chunk) (l:List Vi):List Chunk:=pre++[.box [.vec 5], .vec 3 (vis l)]
abbrev voB (pre:List Chunk) (l:List Vi):List Chunk:=pre++[.box [.vec 6], .dead, .vec 3 (vis l)]
abbrev preV (n:Nt) (d:List (List Int)) (p:List Pk) (ms:List (List Int)):List Chunk:=[nbx n, .box [.psl 1 (dls d)], .box [.psl 3 (pks p)], .box [.psl 1 (trs ms)]]
theorem sent1_ok (Y:YP) (hm6:Y.m=5) (n:Nt) (hn:NL n) (p:List Pk) (h:SkP n p) (ms:List (List Int)) (hms:MsL ms) (d:List (List Int)) (K:Vi→Bool)
  (hY:∀j v,(tell n p (dR ms) p.length)[j]? =some v→CtrY Tryz.prog Y [.agg (viw v)] (voA (preV n d p ms) (((tell n p (dR ms) p.length).take j).filter K)) (fun r o'=>r= .bl true∧o'=if K v=true then voB (preV n d p ms) (((tell n p (dR ms) p.length).take (j+1)).filter K)else voA (preV n d p ms) (((tell n p (dR ms) p.length).take (j+1)).filter K))):
  CtrL Tryz.prog Y 110 [.raw (yv Y.L), .pptr [.psl 3 (pks p)], .pptr [.psl 1 (strs n.nm), .psl 5 (lns n.ln), .psl 8 (fls n.fl)], .pptr [.psl 1 (trs ms)]] (voA (preV n d p ms) []) (fun _ o=>o=voA (preV n d p ms) ((tell n p (dR ms) p.length).filter K)∨o=voB (preV n d p ms) ((tell n p (dR ms) p.length).filter K)):=by
 refine fn_introY (E:=env 6) tys_ok rfl rfl rfl Tryz.func110 (by kernel_rfl) rfl (by kernel_rfl) ?_
 have h60:=h.l
 have hpl:=pks_len p
 (repeat' (conv=>whnf);first|refine aC ?_ ?_<;>intro<;>try omega|refine z2_T1 ?_|fail);all_goals try (conv=>whnf)
 have hat:∀P v r,tell n p (dR ms) p.length=P++v::r→(K v=true→CtrY Tryz.prog Y [.agg (viw v)] (voA (preV n d p ms) (P.filter K)) (fun r o'=>r= .bl true∧o'=voB (preV n d p ms) (P.filter K++[v])))∧(¬K v=true→CtrY Tryz.prog Y [.agg (viw v)] (voA (preV n d p ms) (P.filter K)) (fun r o'=>r= .bl true∧o'=voA (preV n d p ms) (P.filter K))):=fun P v r e=>by
  obtain⟨e1,e2,e3⟩:=pick_at e
  have hc:=hY _ _ e1
  rw [e2,e3,List.filter_append]at hc
  refine⟨fun hK=>?_,fun hK=>?_⟩
  ·rw [if_pos hK,List.filter_cons,if_pos hK,List.filter_nil]at hc;exact hc
  ·rw [if_neg hK,List.filter_cons,if_neg hK,List.filter_nil,List.append_nil]at hc;exact hc
 clear hY
 refine LoopOb.mk (Y:=Nat×Bool) (st:=fun y=>match y.2 with
   |true=>⟨[(13,i64 y.1),(12,i64 (pks p).length),(0, .raw (yv Y.L)),(1, .pptr [.psl 3 (pks p)]),(2, .pptr [.psl 1 (strs n.nm), .psl 5 (lns n.ln), .psl 8 (fls n.fl)]),(3, .pptr [.psl 1 (trs ms)])],voA (preV n d p ms) ((tell n p (dR ms) y.1).filter K)⟩
   |false=>⟨[(13,i64 y.1),(12,i64 (pks p).length),(0, .raw (yv Y.L)),(1, .pptr [.psl 3 (pks p)]),(2, .pptr [.psl 1 (strs n.nm), .psl 5 (lns n.ln), .psl 8 (fls n.fl)]),(3, .pptr [.psl 1 (trs ms)])],voB (preV n d p ms) ((tell n p (dR ms) y.1).filter K)⟩)
  (inv:=fun y=>y.1≤p.length) (fun y=>p.length-y.1) (0,true) [0,1,2,3,4,5] (by simp) (by(exact aL)) ?_
 rintro⟨i,b⟩ hi
 dsimp only at hi⊢
 by_cases hil:i<p.length
 ·obtain⟨f1,f2,t1,t2,hRt,_⟩:=h.fl hil
  have r4:=hRt.l2
  have cR:=ORouI_ok n hn p h i hil
  have cE:=OEnd_ok n hn p h ms hms i
  have cD:=fun k:Nat=>ODel_ok n hn p (by omega) (fun i hi=>by have:=h.fl hi;omega) ms hms i k
  have hat1:∀k x,k<(pfl n (p.getD i pk0)).rt.length →delO n p (dR ms) i k=some x→_:=fun k x h1 h2=>(at_hop (g:=fun i h=>delO n p (dR ms) i h) (e:=fun i=>enO n p (dR ms) i) (m:=fun i=>(pfl n (p.getD i pk0)).rt.length) hil h1 h2).elim fun r hr=>hat _ _ r hr
  have hat2:∀x,enO n p (dR ms) i=some x→_:=fun x h2=>(at_end (g:=fun i h=>delO n p (dR ms) i h) (e:=fun i=>enO n p (dR ms) i) (m:=fun i=>(pfl n (p.getD i pk0)).rt.length) hil h2).elim fun r hr=>hat _ _ r hr
  have htl:tell n p (dR ms) (i+1)=tell n p (dR ms) i++(hopL (fun i h=>delO n p (dR ms) i h) i (pfl n (p.getD i pk0)).rt.length ++optL i (-1) (enO n p (dR ms) i)):=rfl
  have hrl:=ints_len (pfl n (p.getD i pk0)).rt
  clear hat
  obtain⟨FH,hFH⟩:∃FH:Nat→List Vi,∀k,FH k=(tell n p (dR ms) i++hopL (fun i h=>delO n p (dR ms) i h) i k).filter K:=⟨_,fun _=>rfl⟩
  have hF0:(tell n p (dR ms) i).filter K=FH 0:=by rw [hFH,hopL,List.append_nil]
  have hFn:∀k:Nat,delO n p (dR ms) i k=none→FH (k+1)=FH k:=fun k e=>by rw [hFH,hFH,hopL,e,optL,List.append_nil]
  have hFy:∀(k:Nat) x,delO n p (dR ms) i k=some x→K ⟨i,k,x⟩=true→FH (k+1)=FH k++[⟨i,k,x⟩]:=fun k x e hK=>by rw [hFH,hFH,hopL,e,optL,←List.append_assoc,List.filter_append,List.filter_cons,if_pos hK,List.filter_nil]
  have hFx:∀(k:Nat) x,delO n p (dR ms) i k=some x→¬K ⟨i,k,x⟩=true→FH (k+1)=FH k:=fun k x e hK=>by rw [hFH,hFH,hopL,e,optL,←List.append_assoc,List.filter_append,List.filter_cons,if_neg hK,List.filter_nil,List.append_nil]
  have hEn:enO n p (dR ms) i=none→(tell n p (dR ms) (i+1)).filter K=FH (pfl n (p.getD i pk0)).rt.length :=fun e=>by rw [htl,hFH,e,optL,List.append_nil]
  have hEy:∀x,enO n p (dR ms) i=some x→K ⟨i,-1,x⟩=true→(tell n p (dR ms) (i+1)).filter K=FH (pfl n (p.getD i pk0)).rt.length ++[⟨i,-1,x⟩]:=fun x e hK=>by rw [htl,hFH,e,optL,←List.append_assoc,List.filter_append,List.filter_cons,if_pos hK,List.filter_nil]
  have hEx:∀x,enO n p (dR ms) i=some x→¬K ⟨i,-1,x⟩=true→(tell n p (dR ms) (i+1)).filter K=FH (pfl n (p.getD i pk0)).rt.length :=fun x e hK=>by rw [htl,hFH,e,optL,←List.append_assoc,List.filter_append,List.filter_cons,if_neg hK,List.filter_nil,List.append_nil]
  have hatH:∀(k:Nat) x,k<(pfl n (p.getD i pk0)).rt.length →delO n p (dR ms) i k=some x→(K ⟨i,k,x⟩=true→CtrY Tryz.prog Y [.agg (viw ⟨i,k,x⟩)] (voA (preV n d p ms) (FH k)) (fun r o'=>r= .bl true∧o'=voB (preV n d p ms) (FH k++[⟨i,k,x⟩])))∧(¬K ⟨i,k,x⟩=true→CtrY Tryz.prog Y [.agg (viw ⟨i,k,x⟩)] (voA (preV n d p ms) (FH k)) (fun r o'=>r= .bl true∧o'=voA (preV n d p ms) (FH k))):=fun k x h1 h2=>by
   rw [hFH];exact hat1 k x h1 h2
  have hatE:∀x,enO n p (dR ms) i=some x→(K ⟨i,-1,x⟩=true→CtrY Tryz.prog Y [.agg (viw ⟨i,-1,x⟩)] (voA (preV n d p ms) (FH (pfl n (p.getD i pk0)).rt.length)) (fun r o'=>r= .bl true∧o'=voB (preV n d p ms) (FH (pfl n (p.getD i pk0)).rt.length ++[⟨i,-1,x⟩])))∧(¬K ⟨i,-1,x⟩=true→CtrY Tryz.prog Y [.agg (viw ⟨i,-1,x⟩)] (voA (preV n d p ms) (FH (pfl n (p.getD i pk0)).rt.length)) (fun r o'=>r= .bl true∧o'=voA (preV n d p ms) (FH (pfl n (p.getD i pk0)).rt.length))):=fun x h2=>by
   rw [hFH];exact hat2 x h2
  clear hFH hat1 hat2 htl
  rw [hF0]
  generalize hm:(pfl n (p.getD i pk0)).rt.length =m at*
  cases b with
  |true=>
   dsimp only
   (repeat' (conv=>whnf);first|refine aC ?_ ?_<;>intro<;>try omega|refine z2_T1 ?_|(refine aK [] cR ?_)|fail);all_goals try (conv=>whnf)
   refine LoopOb.mk (Y:=Nat×Bool) (st:=fun y=>match y.2 with
     |true=>⟨[(21,i64 y.1),(20,i64 (ints (pfl n (p.getD i pk0)).rt).length),(5,i64 i),(13,i64 i),(12,i64 (pks p).length),(0, .raw (yv Y.L)),(1, .pptr [.psl 3 (pks p)]),(2, .pptr [.psl 1 (strs n.nm), .psl 5 (lns n.ln), .psl 8 (fls n.fl)]),(3, .pptr [.psl 1 (trs ms)])],voA (preV n d p ms) (FH y.1)⟩
     |false=>⟨[(21,i64 y.1),(20,i64 (ints (pfl n (p.getD i pk0)).rt).length),(5,i64 i),(13,i64 i),(12,i64 (pks p).length),(0, .raw (yv Y.L)),(1, .pptr [.psl 3 (pks p)]),(2, .pptr [.psl 1 (strs n.nm), .psl 5 (lns n.ln), .psl 8 (fls n.fl)]),(3, .pptr [.psl 1 (trs ms)])],voB (preV n d p ms) (FH y.1)⟩)
    (inv:=fun y=>y.1≤m) (fun y=>m-y.1) (0,true) [0,1,2,3,4,5] (by simp) (by(exact aL)) ?_
   rintro⟨k,b⟩ hk
   dsimp only at hk⊢
   cases b with
   |true=>
    dsimp only
    by_cases hkl:k<m
    ·have cDk:=cD k
     cases hd:delO n p (dR ms) i k with
     |none=>
      rw [hd]at cDk
      simp only [arrT]at cDk
      (repeat' (conv=>whnf);first|refine aC ?_ ?_<;>intro<;>try omega|refine z2_T1 ?_|(refine aK [] cDk ?_)|fail);all_goals try (conv=>whnf)
      exact⟨(k+1,true),[0,1,2,3,4,5],by dsimp only;omega,by dsimp only;omega,by dsimp only;rw [hFn k hd];(exact aL)⟩
     |some x=>
      rw [hd]at cDk
      simp only [arrT]at cDk
      obtain⟨hy,hx⟩:=hatH k x hkl hd
      by_cases hK:K ⟨i,k,x⟩=true
      ·have hy:=hy hK
       (repeat' (conv=>whnf);first|refine aC ?_ ?_<;>intro<;>try omega|refine z2_T1 ?_|(refine aK [] cDk ?_)|refine YOb.mk rfl ?_|(refine YieldOb.mk 5 hm6 [0,1,2,3,4,5] hy rfl (ImpL.refl _) rfl rfl rfl ?_;rintro _ _ ⟨rfl,rfl⟩)|fail);all_goals try (conv=>whnf)
       exact⟨(k+1,false),[0,1,2,3,4,5,6],by dsimp only;omega,by dsimp only;omega,by dsimp only;rw [hFy k x hd hK];(exact aL)⟩
      ·have hx:=hx hK
       (repeat' (conv=>whnf);first|refine aC ?_ ?_<;>intro<;>try omega|refine z2_T1 ?_|(refine aK [] cDk ?_)|refine YOb.mk rfl ?_|(refine YieldOb.mk 5 hm6 [0,1,2,3,4,5] hx rfl (ImpL.refl _) rfl rfl rfl ?_;rintro _ _ ⟨rfl,rfl⟩)|fail);all_goals try (conv=>whnf)
       exact⟨(k+1,true),[0,1,2,3,4,5],by dsimp only;omega,by dsimp only;omega,by dsimp only;rw [hFx k x hd hK];(exact aL)⟩
    ·obtain rfl:k=m:=by omega
     cases he:enO n p (dR ms) i with
     |none=>
      rw [he]at cE
      simp only [arrT]at cE
      (repeat' (conv=>whnf);first|refine aC ?_ ?_<;>intro<;>try omega|refine z2_T1 ?_|(refine aK [] cE ?_)|fail);all_goals try (conv=>whnf)
      exact⟨(i+1,true),[0,1,2,3,4,5],by dsimp only;omega,by dsimp only;omega,by dsimp only;rw [hEn he];(exact aL)⟩
     |some x=>
      rw [he]at cE
      simp only [arrT]at cE
      obtain⟨hy,hx⟩:=hatE x he
      by_cases hK:K ⟨i,-1,x⟩=true
      ·have hy:=hy hK
       (repeat' (conv=>whnf);first|refine aC ?_ ?_<;>intro<;>try omega|refine z2_T1 ?_|(refine aK [] cE ?_)|refine YOb.mk rfl ?_|(refine YieldOb.mk 5 hm6 [0,1,2,3,4,5] hy rfl (ImpL.refl _) rfl rfl rfl ?_;rintro _ _ ⟨rfl,rfl⟩)|fail);all_goals try (conv=>whnf)
       exact⟨(i+1,false),[0,1,2,3,4,5,6],by dsimp only;omega,by dsimp only;omega,by dsimp only;rw [hEy x he hK];(exact aL)⟩
      ·have hx:=hx hK
       (repeat' (conv=>whnf);first|refine aC ?_ ?_<;>intro<;>try omega|refine z2_T1 ?_|(refine aK [] cE ?_)|refine YOb.mk rfl ?_|(refine YieldOb.mk 5 hm6 [0,1,2,3,4,5] hx rfl (ImpL.refl _) rfl rfl rfl ?_;rintro _ _ ⟨rfl,rfl⟩)|fail);all_goals try (conv=>whnf)
       exact⟨(i+1,true),[0,1,2,3,4,5],by dsimp only;omega,by dsimp only;omega,by dsimp only;rw [hEx x he hK];(exact aL)⟩
   |false=>
    dsimp only
    by_cases hkl:k<m
    ·have cDk:=cD k
     cases hd:delO n p (dR ms) i k with
     |none=>
      rw [hd]at cDk
      simp only [arrT]at cDk
      (repeat' (conv=>whnf);first|refine aC ?_ ?_<;>intro<;>try omega|refine z2_T1 ?_|(refine aK [] cDk ?_)|fail);all_goals try (conv=>whnf)
      exact⟨(k+1,false),[0,1,2,3,4,5,6],by dsimp only;omega,by dsimp only;omega,by dsimp only;rw [hFn k hd];(exact aL)⟩
     |some x=>
      rw [hd]at cDk
      simp only [arrT]at cDk
      obtain⟨hy,hx⟩:=hatH k x hkl hd
      by_cases hK:K ⟨i,k,x⟩=true
      ·have hy:=hy hK
       (repeat' (conv=>whnf);first|refine aC ?_ ?_<;>intro<;>try omega|refine z2_T1 ?_|(refine aK [] cDk ?_)|refine YOb.mk rfl ?_|(refine YieldOb.mk 5 hm6 [0,1,2,3,4,6] hy rfl (ImpL.refl _) rfl rfl rfl ?_;rintro _ _ ⟨rfl,rfl⟩)|fail);all_goals try (conv=>whnf)
       exact⟨(k+1,false),[0,1,2,3,4,5,7],by dsimp only;omega,by dsimp only;omega,by dsimp only;rw [hFy k x hd hK];(exact aL)⟩
      ·have hx:=hx hK
       (repeat' (conv=>whnf);first|refine aC ?_ ?_<;>intro<;>try omega|refine z2_T1 ?_|(refine aK [] cDk ?_)|refine YOb.mk rfl ?_|(refine YieldOb.mk 5 hm6 [0,1,2,3,4,6] hx rfl (ImpL.refl _) rfl rfl rfl ?_;rintro _ _ ⟨rfl,rfl⟩)|fail);all_goals try (conv=>whnf)
       exact⟨(k+1,false),[0,1,2,3,4,5,6],by dsimp only;omega,by dsimp only;omega,by dsimp only;rw [hFx k x hd hK];(exact aL)⟩
    ·obtain rfl:k=m:=by omega
     cases he:enO n p (dR ms) i with
     |none=>
      rw [he]at cE
      simp only [arrT]at cE
      (repeat' (conv=>whnf);first|refine aC ?_ ?_<;>intro<;>try omega|refine z2_T1 ?_|(refine aK [] cE ?_)|fail);all_goals try (conv=>whnf)
      exact⟨(i+1,false),[0,1,2,3,4,5,6],by dsimp only;omega,by dsimp only;omega,by dsimp only;rw [hEn he];(exact aL)⟩
     |some x=>
      rw [he]at cE
      simp only [arrT]at cE
      obtain⟨hy,hx⟩:=hatE x he
      by_cases hK:K ⟨i,-1,x⟩=true
      ·have hy:=hy hK
       (repeat' (conv=>whnf);first|refine aC ?_ ?_<;>intro<;>try omega|refine z2_T1 ?_|(refine aK [] cE ?_)|refine YOb.mk rfl ?_|(refine YieldOb.mk 5 hm6 [0,1,2,3,4,6] hy rfl (ImpL.refl _) rfl rfl rfl ?_;rintro _ _ ⟨rfl,rfl⟩)|fail);all_goals try (conv=>whnf)
       exact⟨(i+1,false),[0,1,2,3,4,5,7],by dsimp only;omega,by dsimp only;omega,by dsimp only;rw [hEy x he hK];(exact aL)⟩
      ·have hx:=hx hK
       (repeat' (conv=>whnf);first|refine aC ?_ ?_<;>intro<;>try omega|refine z2_T1 ?_|(refine aK [] cE ?_)|refine YOb.mk rfl ?_|(refine YieldOb.mk 5 hm6 [0,1,2,3,4,6] hx rfl (ImpL.refl _) rfl rfl rfl ?_;rintro _ _ ⟨rfl,rfl⟩)|fail);all_goals try (conv=>whnf)
       exact⟨(i+1,false),[0,1,2,3,4,5,6],by dsimp only;omega,by dsimp only;omega,by dsimp only;rw [hEx x he hK];(exact aL)⟩
  |false=>
   dsimp only
   (repeat' (conv=>whnf);first|refine aC ?_ ?_<;>intro<;>try omega|refine z2_T1 ?_|(refine aK [] cR ?_)|fail);all_goals try (conv=>whnf)
   refine LoopOb.mk (Y:=Nat) (st:=fun y=>⟨[(21,i64 y),(20,i64 (ints (pfl n (p.getD i pk0)).rt).length),(5,i64 i),(13,i64 i),(12,i64 (pks p).length),(0, .raw (yv Y.L)),(1, .pptr [.psl 3 (pks p)]),(2, .pptr [.psl 1 (strs n.nm), .psl 5 (lns n.ln), .psl 8 (fls n.fl)]),(3, .pptr [.psl 1 (trs ms)])],voB (preV n d p ms) (FH y)⟩)
    (inv:=fun y=>y≤m) (fun y=>m-y) 0 [0,1,2,3,4,5,6] (by omega) (by(exact aL)) ?_
   rintro k hk
   by_cases hkl:k<m
   ·have cDk:=cD k
    cases hd:delO n p (dR ms) i k with
    |none=>
     rw [hd]at cDk
     simp only [arrT]at cDk
     (repeat' (conv=>whnf);first|refine aC ?_ ?_<;>intro<;>try omega|refine z2_T1 ?_|(refine aK [] cDk ?_)|fail);all_goals try (conv=>whnf)
     exact⟨k+1,[0,1,2,3,4,5,6],by omega,by omega,by rw [hFn k hd];(exact aL)⟩
    |some x=>
     rw [hd]at cDk
     simp only [arrT]at cDk
     obtain⟨hy,hx⟩:=hatH k x hkl hd
     by_cases hK:K ⟨i,k,x⟩=true
     ·have hy:=hy hK
      (repeat' (conv=>whnf);first|refine aC ?_ ?_<;>intro<;>try omega|refine z2_T1 ?_|(refine aK [] cDk ?_)|refine YOb.mk rfl ?_|(refine YieldOb.mk 5 hm6 [0,1,2,3,4,6] hy rfl (ImpL.refl _) rfl rfl rfl ?_;rintro _ _ ⟨rfl,rfl⟩)|fail);all_goals try (conv=>whnf)
      exact⟨k+1,[0,1,2,3,4,5,7],by omega,by omega,by rw [hFy k x hd hK];(exact aL)⟩
     ·have hx:=hx hK
      (repeat' (conv=>whnf);first|refine aC ?_ ?_<;>intro<;>try omega|refine z2_T1 ?_|(refine aK [] cDk ?_)|refine YOb.mk rfl ?_|(refine YieldOb.mk 5 hm6 [0,1,2,3,4,6] hx rfl (ImpL.refl _) rfl rfl rfl ?_;rintro _ _ ⟨rfl,rfl⟩)|fail);all_goals try (conv=>whnf)
      exact⟨k+1,[0,1,2,3,4,5,6],by omega,by omega,by rw [hFx k x hd hK];(exact aL)⟩
   ·obtain rfl:k=m:=by omega
    cases he:enO n p (dR ms) i with
    |none=>
     rw [he]at cE
     simp only [arrT]at cE
     (repeat' (conv=>whnf);first|refine aC ?_ ?_<;>intro<;>try omega|refine z2_T1 ?_|(refine aK [] cE ?_)|fail);all_goals try (conv=>whnf)
     exact⟨(i+1,false),[0,1,2,3,4,5,6],by dsimp only;omega,by dsimp only;omega,by dsimp only;rw [hEn he];(exact aL)⟩
    |some x=>
     rw [he]at cE
     simp only [arrT]at cE
     obtain⟨hy,hx⟩:=hatE x he
     by_cases hK:K ⟨i,-1,x⟩=true
     ·have hy:=hy hK
      (repeat' (conv=>whnf);first|refine aC ?_ ?_<;>intro<;>try omega|refine z2_T1 ?_|(refine aK [] cE ?_)|refine YOb.mk rfl ?_|(refine YieldOb.mk 5 hm6 [0,1,2,3,4,6] hy rfl (ImpL.refl _) rfl rfl rfl ?_;rintro _ _ ⟨rfl,rfl⟩)|fail);all_goals try (conv=>whnf)
      exact⟨(i+1,false),[0,1,2,3,4,5,7],by dsimp only;omega,by dsimp only;omega,by dsimp only;rw [hEy x he hK];(exact aL)⟩
     ·have hx:=hx hK
      (repeat' (conv=>whnf);first|refine aC ?_ ?_<;>intro<;>try omega|refine z2_T1 ?_|(refine aK [] cE ?_)|refine YOb.mk rfl ?_|(refine YieldOb.mk 5 hm6 [0,1,2,3,4,6] hx rfl (ImpL.refl _) rfl rfl rfl ?_;rintro _ _ ⟨rfl,rfl⟩)|fail);all_goals try (conv=>whnf)
      exact⟨(i+1,false),[0,1,2,3,4,5,6],by dsimp only;omega,by dsimp only;omega,by dsimp only;rw [hEx x he hK];(exact aL)⟩
 ·obtain rfl:i=p.length:=by omega
  cases b
  ·dsimp only
   (repeat' (conv=>whnf);first|refine aC ?_ ?_<;>intro<;>try omega|refine z2_T1 ?_|fail);all_goals try (conv=>whnf)
   exact .inr rfl
  ·dsimp only
   (repeat' (conv=>whnf);first|refine aC ?_ ?_<;>intro<;>try omega|refine z2_T1 ?_|fail);all_goals try (conv=>whnf)
   exact .inl rfl
end
section
open Go.Sx Go.Pk Go.Mc Go.Np Go.Tp
def endO (n:Nt) (d:List (List Int)) (f:Int):Option Int:=if 0≤f∧f<n.fl.length then match bef d (n.fl.getD f.toNat fl0) (n.fl.getD f.toNat fl0).rt.length with
 |none=>none
 |some s=>some ((n.fl.getD f.toNat fl0).rt.length -1+(s:Int))
 else none
theorem z1_O4 {G H:Prop} (k:H) (h:H→G:=by first|exact fun r=>aS r|exact fun r=>aG r|exact fun r=>aD r|exact fun r=>aH r|exact fun r=>aP_T1 r|exact fun r=>aI r|exact fun r=>aJ r|exact fun r=>aW (.qs [0,1,2,3,4,5,6,7,8] .nil) r|exact fun r=>aW (.qs [0,1,2,3,4,5,6,7,8,9,10] .nil) r):G:=h k
theorem HEnd_ok (n:Nt) (hn:NL n) (d:List (List Int)) (hd:DL d) (hS:ShapeP n d) (f:Int):Ctr Tryz.prog 81 [ntv n, .psl 1 (dls d),i64 f] [] (fun r o=>o=[]∧r=arrT (endO n d f)):=by
 refine fI 0 Tryz.func81 ?_
 have hfl:=fll n.fl
 have hnf:=hn.fl
 have hdl:=dls_len d
 have hd1:=hd.l
 by_cases hf:0≤f∧f<n.fl.length
 ·obtain⟨j,rfl⟩:=Int.eq_ofNat_of_zero_le hf.1
  have hj:j<n.fl.length:=by omega
  have hfg:=flg (l:=n.fl) (i:=j) hj
  have hRt:=chk_fl hS.c j hj
  have heo:endO n d j=match bef d (n.fl.getD j fl0) (n.fl.getD j fl0).rt.length with
    |none=>none
    |some s=>some ((n.fl.getD j fl0).rt.length -1+(s:Int)):=by
   unfold endO;rw [if_pos hf,Int.toNat_natCast]
  have hbl:=fun i s hi hs=>bef_le hS hRt (i:=i) (s:=s) hi hs
  have hdy:=fun i hi=>hS.dly hRt (i:=i) hi
  have hrb:=hRt.b
  have hrc:=hRt.c
  have r4:=hRt.l2
  have r1:=hRt.l1
  clear hRt
  generalize n.fl.getD j fl0=w at*
  have hrl:=ints_len w.rt
  (repeat' (conv=>whnf);first|refine⟨j,_,rfl,hfg,?_⟩|refine aC ?_ ?_<;>intro<;>try omega|refine z1_O4 ?_|(refine aK [] (Shape_ok n hn d hd) ?_)|fail);all_goals try (conv=>whnf)
  ·exact absurd hS (by assumption)
  refine LoopOb.mk (Y:=Nat×Nat) (st:=fun y=>⟨[(39,i64 y.1),(38,i64 (ints w.rt).length),(37, .psl 1 (ints w.rt)),(9,i64 ((w.rt.length:Int)-1+y.2)),(8, .ptr 1 0),(1, .psl 1 (dls d))],[nbx n, .box (flv w)]⟩)
   (inv:=fun y=>y.1≤w.rt.length∧bef d w y.1=some y.2) (fun y=>w.rt.length-y.1) (0,0) [0,1] ⟨Nat.zero_le _,rfl⟩ (by dsimp only;rw [←hrl];(exact aL)) ?_
  rintro⟨i,s⟩ ⟨hi,hs⟩
  dsimp only at hi hs⊢
  have hb:=hbl i s hi hs
  by_cases hil:i<w.rt.length
  ·obtain⟨d1,d2,d3,d4⟩:=hdy i hil
   have b1:=hrb i hil
   have c1:=hrc i hil
   have grt:=ints_get (l:=w.rt) (j:=i) hil
   have gdl:=dls_get (d:=d) (i:=(w.rt.getD i 0).toNat) d1
   have gdd:=ints_get (l:=d.getD (w.rt.getD i 0).toNat []) (j:=w.cl.toNat) d2
   have hil2:=ints_len (d.getD (w.rt.getD i 0).toNat [])
   have hbn:bef d w (i+1)=if dly d w i<0 then none else some (s+(dly d w i).toNat):=by simp only [Np.bef,hs]
   have hrw:=hd.r (w.rt.getD i 0).toNat
   unfold dly at hbn d3 d4
   generalize w.rt.getD i 0=v at*
   generalize d.getD v.toNat []=row at*
   generalize row.getD w.cl.toNat 0=z at*
   (repeat' (conv=>whnf);first|refine⟨w.cl.toNat,_,by omega,gdd,?_⟩|refine⟨v.toNat,_,by omega,gdl,?_⟩|refine⟨i,_,rfl,grt,?_⟩|refine aC ?_ ?_<;>intro<;>try omega|refine z1_O4 ?_|fail);all_goals try (conv=>whnf)
   ·rw [if_pos (by assumption)]at hbn
    exact⟨rfl,by rw [heo,bef_none hbn (by omega)];rfl⟩
   ·rw [if_neg (by assumption)]at hbn
    exact⟨(i+1,s+z.toNat),[0,1],⟨by dsimp only;omega,hbn⟩,by dsimp only;omega,by dsimp only;rw [show(w.rt.length:Int)-1+((s+z.toNat:Nat):Int)=(w.rt.length:Int)-1+(s:Int)+z by omega];(exact aL)⟩
  ·obtain rfl:i=w.rt.length:=by omega
   (repeat' (conv=>whnf);first|refine aC ?_ ?_<;>intro<;>try omega|refine z1_O4 ?_|fail);all_goals try (conv=>whnf)
   exact⟨rfl,by rw [heo,hs];rfl⟩
 ·have heo:endO n d f=none:=if_neg hf
  rw [heo]
  (repeat' (conv=>whnf);first|refine aC ?_ ?_<;>intro<;>try omega|refine z1_O4 ?_|(refine aK [] (Shape_ok n hn d hd) ?_)|fail);all_goals try (conv=>whnf)
  all_goals exact⟨rfl,rfl⟩
end
end Go.Proofs.YtaomhdljcdadaaaGreat
