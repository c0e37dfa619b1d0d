/- Lemmas that the proofs of this seat use (S9 So2). Conditions: those that stand in each theorem. -/
import Derived.Test.YtaomhdljcdadaaaGreatS8
import Derived.Test.YtaomhdljcdadaaaGreatS2
import Derived.Test.YtaomhdljcdadaaaGreatSh
import Derived.Test.YtaomhdljcdadaaaGreatSrt
set_option linter.unusedVariables false
set_option linter.unusedSimpArgs false
section
namespace Go.Proofs.YtaomhdljcdadaaaGreat
open Go.Sx Go.Pk Go.Mc Go.Np
set_option maxRecDepth 4000
set_option maxHeartbeats 2000000
abbrev wtO (p:List Pk) (A:Nat→Int) (i:Nat):Wt:=⟨A i,(p.getD i pk0).f,i⟩
theorem aP_S9 {A B K:Prop} (k:K) (a:A:=by(simp only [zA,zT,zD,zC,zN,ints_len,zR,Go.Cv.vals_len];omega)) (b:B:=by(simp only [zA,zT,zD,zC,zN,ints_len,zR,Go.Cv.vals_len];omega)):(A∧B)∧K:=⟨⟨a,b⟩,k⟩
theorem z1_S9 {G H:Prop} (k:H) (h:H→G:=by first|exact fun r=>aS r|exact fun r=>aG r|exact fun r=>aD r|exact fun r=>aH r|exact fun r=>aP_S9 r|exact fun r=>aI r|exact fun r=>aJ r|exact fun r=>aW (.qs [0,1,2,3,4,5,6,7,8] .nil) r|exact fun r=>aW (.qs [0,1,2,3,4,5,6,7,8,9] .nil) r|exact fun r=>aW (.qs [0,1,2,3,4,5,6,7,8,9,10] .nil) r|exact fun r=>aW (.qs [0,1,2,3,4,5,6,7,8,9,10,11] .nil) r):G:=h k
theorem ahead_ok (p:List Pk) (A:Nat→Int) (a b:Nat) (ha:a<p.length) (hb:b<p.length):
  Ctr Tryz.prog 64 [.psl 3 (pks p), .vec 0,i64 a,i64 b] [.vec 1 (ivs p.length A)] (fun r o=>o=[.vec 1 (ivs p.length A)]∧∃P:Prop,(P↔(wtO p A a).lt (wtO p A b))∧r= .bp P):=by
 refine fn_intro (E:=env 1) tys_ok rfl rfl rfl Tryz.func64 (by kernel_rfl) rfl (by kernel_rfl) ?_
 have hpl:=pks_len p
 have hil:=ivs_len p.length A
 have ga:=ivs_get (f:=A) ha
 have gb:=ivs_get (f:=A) hb
 have pa:=pks_get ha
 have pb:=pks_get hb
 have hlt:(wtO p A a).lt (wtO p A b)↔(A a<A b∨(A a=A b∧((p.getD a pk0).f <(p.getD b pk0).f ∨((p.getD a pk0).f =(p.getD b pk0).f ∧a<b)))):=Iff.rfl
 generalize p.getD a pk0=x at*
 generalize p.getD b pk0=y at*
 generalize A a=u at*
 generalize A b=v at*
 (repeat' (conv=>whnf);first|refine⟨b,_,rfl,pb,?_⟩|refine⟨a,_,rfl,pa,?_⟩|(refine aC (fun _=>?_) (fun _=>?_)<;>try (exfalso;omega))|refine z1_S9 ?_|refine⟨a,rfl,by omega,?_⟩|refine⟨b,rfl,by omega,?_⟩|refine⟨_,ga,?_⟩|refine⟨_,gb,?_⟩|fail);all_goals try (conv=>whnf)
 all_goals first
  |exact⟨rfl,u<v,by rw [hlt];omega,rfl⟩
  |exact⟨rfl,x.f<y.f,by rw [hlt];omega,rfl⟩
  |exact⟨rfl,(a:Int)<b,by rw [hlt];omega,rfl⟩
abbrev ixs (q:List Wt):List Int:=q.map fun x=>(x.i:Int)
theorem ixs_len (q:List Wt):(ixs q).length =q.length:=by simp [ixs]
def QuR (F:Tf) (q:List Wt) (r:SV) (o:List Chunk):Prop:=r= .tup [.vec 0, .vec 1]∧o=[.vec 3 (pks (pkq F q)), .vec 1 (ints (ixs q))]
theorem z3_S9 {G H:Prop} (k:H) (h:H→G:=by first|exact fun r=>aS r|exact fun r=>aG r|exact fun r=>aD r|exact fun r=>aP_S9 r|exact fun r=>aI r|exact fun r=>aJ r|exact fun r=>aW (.qs [0,1,2,3,4,5,6,7,8,9,10] (.l 11 [2,0] (.l 12 [] (.qs [13,14,15,16,17] .nil) .no) .no)) r|exact fun r=>aW (.qs [0,1,2,3,4,5,6,7,8,9,10,11,12,13] (.l 14 [] (.qs [15] .nil) .no)) r|exact fun r=>aW (.qs [0,1,2,3,4,5,6,7,8,9,10,11,12,13,14] (.l 15 [] (.qs [16] (.l 17 [] .nil .no)) .no)) r|exact fun r=>aW (.qs [0,1,2,3,4,5,6,7,8,9,10,11,12,13,14,15,16,17] (.l 18 [] (.l 19 [] (.qs [20] .nil) .no) .no)) r):G:=h k
theorem z2_S9 {G H:Prop} (k:H) (h:H→G:=by first|exact fun r=>aS r|exact fun r=>aG r|exact fun r=>aD r|exact fun r=>aH r|exact fun r=>aP_S9 r|exact fun r=>aI r|exact fun r=>aJ r|exact fun r=>aW (.qs [0,1,2,3,4,5,6,7,8,9,10] (.l 11 [2,0] (.l 12 [] (.qs [13,14,15,16,17] .nil) .no) .no)) r|exact fun r=>aW (.qs [0,1,2,3,4,5,6,7,8,9,10,11,12,13] (.l 14 [] (.qs [15] .nil) .no)) r|exact fun r=>aW (.qs [0,1,2,3,4,5,6,7,8,9,10,11,12,13,14] (.l 15 [] (.qs [16] (.l 17 [] .nil .no)) .no)) r|exact fun r=>aW (.qs [0,1,2,3,4,5,6,7,8,9,10,11,12,13,14,15,16,17] (.l 18 [] (.l 19 [] (.qs [20] .nil) .no) .no)) r):G:=h k
theorem RQu_ok (n:Nt) (hn:NL n) (p:List Pk) (hp:p.length≤60) (hR:RtP n p) (ms:List (List Int)) (hm:MsL ms) (l:Int):Ctr Tryz.prog 20 [ntv n, .psl 3 (pks p), .agg [.psl 1 (trs ms)],i64 l] [] (QuR (toF n p) (quL n p (dR ms) l p.length)):=by
 refine fn_intro (E:=env 0) tys_ok rfl rfl rfl Tryz.func20 (by kernel_rfl) rfl (by kernel_rfl) ?_
 have hpl:=pks_len p
 have htl:=trs_len ms
 have hml:=hm.l
 (repeat' (conv=>whnf);first|(refine aC (fun _=>?_) (fun _=>?_)<;>try (exfalso;omega))|refine aS ?_|refine aG ?_|refine aD ?_|refine aH ?_|refine aP_S9 ?_|refine aI ?_|refine aJ ?_|refine⟨_,_,rfl,rfl,Nat.le_refl _,⟨by(simp only;omega),by omega⟩,?_⟩|refine aW (.qs [0,1,2,3,4,5,6,7,8,9,10] (.l 11 [2,0] (.l 12 [] (.qs [13,14,15,16,17] .nil) .no) .no)) ?_|refine aW (.qs [0,1,2,3,4,5,6,7,8,9,10,11,12,13] (.l 14 [] (.qs [15] .nil) .no)) ?_|refine aW (.qs [0,1,2,3,4,5,6,7,8,9,10,11,12,13,14] (.l 15 [] (.qs [16] (.l 17 [] .nil .no)) .no)) ?_|refine aW (.qs [0,1,2,3,4,5,6,7,8,9,10,11,12,13,14,15,16,17] (.l 18 [] (.l 19 [] (.qs [20] .nil) .no) .no)) ?_|refine⟨p.length,p.length,by omega,by omega,Nat.le_refl _,⟨by simp only;omega,by omega⟩,?_⟩|fail);all_goals try (conv=>whnf)
 dsimp only [ofV]
 rw [show ofV1 (Value.int IntKind.i64 0)=i64 0 from rfl,ivs_rep]
 refine LoopOb.mk (Y:=Nat×(Nat→Int)) (st:=fun y=>⟨[(12,i64 y.1),(11, .vec 3),(10, .vec 2),(6, .ptr 1 0),(4, .ptr 0 0),(1, .psl 3 (pks p)),(3,i64 l)],[nbx n, .box [.psl 1 (trs ms)], .vec 1 (ivs p.length y.2), .vec 1 (ints (ixs (quL n p (dR ms) l y.1)))]⟩)
  (inv:=fun y=>y.1≤p.length∧∀x∈quL n p (dR ms) l y.1,y.2 x.i=x.a) (fun y=>p.length-y.1) (0,fun _=>0) [0,1,4,5] ⟨by omega,fun x hx=>by simp [quL]at hx⟩ (by rw [hpl];(exact aL)) ?_
 rintro⟨i,A⟩ ⟨hi,hA⟩
 dsimp only at hi hA⊢
 have hq1:=quL_at (n:=n) (p:=p) (D:=dR ms) (l:=l) i
 have hq2:=quL_len (n:=n) (p:=p) (D:=dR ms) (l:=l) i
 have hq3:=(quL_ok (n:=n) (p:=p) (D:=dR ms) (l:=l) i).1
 by_cases hil:i<p.length
 ·have hnx:quL n p (dR ms) l (i+1)=match arL n p (dR ms) l i with
   |none=>quL n p (dR ms) l i
   |some a=>insW ⟨a,(p.getD i pk0).f,i⟩ (quL n p (dR ms) l i):=rfl
  generalize quL n p (dR ms) l i=q at*
  have hg:=pks_get hil
  have haO:=arO_arL (D:=dR ms) (l:=l) hR hil
  have hix:=ixs_len q
  have hiv:=ints_len (ixs q)
  have hvl:=ivs_len p.length A
  obtain⟨x,hx⟩:∃x,p.getD i pk0=x:=⟨_,rfl⟩
  rw [hx]at hg haO hnx
  (repeat' (conv=>whnf);first|refine⟨i,_,rfl,hg,?_⟩|(refine aC (fun _=>?_) (fun _=>?_)<;>try (exfalso;omega))|refine z2_S9 ?_|fail);all_goals try (conv=>whnf)
  refine aK [] (rHop_ok n hn x.f l) ?_
  (repeat' (conv=>whnf);first|(refine aC (fun _=>?_) (fun _=>?_)<;>try (exfalso;omega))|refine z2_S9 ?_|fail);all_goals try (conv=>whnf)
  refine aK [] (RArr_ok n hn p (by omega) ms hm i (hop n x.f l)) ?_
  rw [haO]
  clear haO
  cases ha:arL n p (dR ms) l i with
  |none=>
   rw [ha]at hnx
   dsimp only at hnx
   simp only [arrT]
   (repeat' (conv=>whnf);first|(refine aC (fun _=>?_) (fun _=>?_)<;>try (exfalso;omega))|refine z2_S9 ?_|fail);all_goals try (conv=>whnf)
   exact⟨(i+1,A),[0,1,2,3],⟨by dsimp only;omega,by dsimp only;rw [hnx];exact hA⟩,by dsimp only;omega,by dsimp only;rw [hnx];(exact aL)⟩
  |some a=>
   rw [ha]at hnx
   dsimp only at hnx
   simp only [arrT]
   (repeat' (conv=>whnf);first|(refine aC (fun _=>?_) (fun _=>?_)<;>try (exfalso;omega))|refine z2_S9 ?_|refine⟨i,rfl,by omega,?_⟩|refine⟨_,ivs_get hil,?_⟩|fail);all_goals try (conv=>whnf)
   obtain⟨x0,hx0⟩:∃x0:Wt,x0=⟨a,x.f,i⟩:=⟨_,rfl⟩
   have hx0i:x0.i=i:=by rw [hx0]
   have hcon:ints (ixs q)++[[i64 i]]=ints (ixs (q++[x0])):=by rw [←hx0i];simp [ints,ixs]
   have hl1:=ints_len (ixs (q++[x0]))
   have hl2:=ixs_len (q++[x0])
   have hl3:(q++[x0]).length =q.length+1:=by simp
   rw [←hx0]at hnx
   have hA2:∀y∈q,wtO p (upd A i a) y.i=y:=fun y hy=>by
    obtain⟨y1,y2,_⟩:=hq1 y hy
    refine Wt.ext' ?_ y2.symm rfl
    show upd A i a y.i=y.a
    rw [upd_ne (by omega)];exact hA y hy
   have hA3:wtO p (upd A i a) i=x0:=by rw [hx0];exact Wt.ext' upd_same (by show(p.getD i pk0).f =x.f;rw [hx]) rfl
   rw [show(SV.num IntKind.i64 (i:Int))=i64 i from rfl,hcon,show(SV.num IntKind.i64 a)=i64 a from rfl,ivs_set]
   (repeat' (conv=>whnf);first|(refine aC (fun _=>?_) (fun _=>?_)<;>try (exfalso;omega))|refine z2_S9 ?_|fail);all_goals try (conv=>whnf)
   rw [show((ints (ixs (q++[x0]))).length :Int)-1=q.length by omega]
   refine LoopOb.mk (Y:=List Wt×List Wt) (st:=fun y=>⟨[(15,i64 y.1.length),(12,i64 i),(11, .vec 3),(10, .vec 2),(6, .ptr 1 0),(4, .ptr 0 0),(1, .psl 3 (pks p)),(3,i64 l)],[nbx n, .box [.psl 1 (trs ms)], .vec 1 (ivs p.length (upd A i a)), .vec 1 (ints (ixs (y.1++x0::y.2)))]⟩)
    (inv:=fun y=>y.1++y.2=q∧∀z∈y.2,x0.lt z) (fun y=>y.1.length) (q,[]) [0,1,2,5] ⟨by simp,fun z hz=>by simp at hz⟩ (by(exact aL)) ?_
   rintro⟨pre,suf⟩ ⟨he,hs⟩
   dsimp only at he hs⊢
   clear hcon hl1 hl2 hl3
   have hll:=ints_len (ixs (pre++x0::suf))
   have hlx:=ixs_len (pre++x0::suf)
   rw [List.length_append,List.length_cons]at hlx
   have hstop:(∀y,pre.getLast? =some y→¬x0.lt y)→quL n p (dR ms) l (i+1)=pre++x0::suf:=fun h=>by
    rw [hnx,←he]
    exact insW_stop (by rw [he];exact hq3) hs h
   have hout:quL n p (dR ms) l (i+1)=pre++x0::suf→∀z∈quL n p (dR ms) l (i+1),upd A i a z.i=z.a:=fun h z hz=>by
    rw [h]at hz
    rcases List.mem_append.1 hz with hz|hz
    ·exact congrArg Wt.a (hA2 z (by rw [←he];exact List.mem_append_left _ hz))
    ·rcases List.mem_cons.1 hz with rfl|hz
     ·rw [hx0i];exact congrArg Wt.a hA3
     ·exact congrArg Wt.a (hA2 z (by rw [←he];exact List.mem_append_right _ hz))
   rcases List.eq_nil_or_concat pre with rfl|⟨pr,y,hpy⟩
   ·have hq:=hstop fun y hy=>by simp at hy
    have hao:=hout hq
    rw [show((([]:List Wt).length :Nat):Int)=0 from rfl]
    (repeat' (conv=>whnf);first|(refine aC (fun _=>?_) (fun _=>?_)<;>try (exfalso;omega))|refine z2_S9 ?_|fail);all_goals try (conv=>whnf)
    exact⟨(i+1,upd A i a),[0,1,2,3],⟨by dsimp only;omega,hao⟩,by dsimp only;omega,by dsimp only;rw [hq];(exact aL)⟩
   ·rw [List.concat_eq_append]at hpy
    subst hpy
    have hyq:y∈q:=by rw [←he];simp
    have hyi:=(hq1 y hyq).1
    have hgl:(pr++[y]).getLast? =some y:=by simp
    have hpl2:(pr++[y]).length =pr.length+1:=by simp
    have g1:(ints (ixs (pr++[y]++x0::suf)))[pr.length+1]? =some [i64 i]:=by
     rw [←hx0i,←hpl2];simp [ints,ixs]
    have g0:(ints (ixs (pr++[y]++x0::suf)))[pr.length]? =some [i64 y.i]:=by simp [ints,ixs]
    have g2:((ints (ixs (pr++[y]++x0::suf))).set (pr.length+1) [i64 y.i]).set pr.length [i64 i]=ints (ixs (pr++x0::y::suf)):=by
     rw [←hx0i]
     simp [ints,ixs,List.set_append]
    have g3:((ints (ixs (pr++[y]++x0::suf))).set (pr.length+1) [i64 y.i])[pr.length]? =some [i64 y.i]:=by rw [List.getElem?_set_ne (by omega)];exact g0
    have hprl:pr.length+1+suf.length=q.length:=by rw [←he];simp;omega
    rw [hpl2]at hlx⊢
    (repeat' (conv=>whnf);first|(refine aC (fun _=>?_) (fun _=>?_)<;>try (exfalso;omega))|refine z2_S9 ?_|refine⟨pr.length+1,rfl,by omega,?_⟩|refine⟨pr.length,by omega,by omega,?_⟩|refine⟨_,g1,?_⟩|refine⟨_,g0,?_⟩|fail);all_goals try (conv=>whnf)
    refine aM [2] (ahead_ok p (upd A i a) i y.i hil (by omega)) rfl rfl ?_
    rintro _ _ ⟨rfl,P,hP,rfl⟩
    rw [hA3,hA2 y hyq]at hP
    (repeat' (conv=>whnf);first|(refine aC (fun _=>?_) (fun _=>?_)<;>try (exfalso;omega))|refine z2_S9 ?_|refine⟨pr.length+1,rfl,by omega,?_⟩|refine⟨pr.length,by omega,by omega,?_⟩|refine⟨pr.length,by omega,by rw [List.length_set];omega,?_⟩|refine⟨_,g1,?_⟩|refine⟨_,g0,?_⟩|refine⟨_,g3,?_⟩|fail);all_goals try (conv=>whnf)
    ·have hlt:=hP.1 (by assumption)
     exact⟨(pr,y::suf),[0,1,2,3],⟨by dsimp only;rw [←he];simp,fun z hz=>by
      rcases List.mem_cons.1 hz with rfl|hz
      ·exact hlt
      ·exact hs z hz⟩,by dsimp only;omega,by dsimp only;rw [g2];(exact aL)⟩
    ·have hnl:¬x0.lt y:=fun h=>absurd (hP.2 h) (by assumption)
     have hq:=hstop fun z hz=>by rw [hgl]at hz;cases hz;exact hnl
     have hao:=hout hq
     exact⟨(i+1,upd A i a),[0,1,2,3],⟨by dsimp only;omega,hao⟩,by dsimp only;omega,by dsimp only;rw [hq];(exact aL)⟩
 ·obtain rfl:i=p.length:=by omega
  generalize quL n p (dR ms) l p.length=q at*
  have hix:=ixs_len q
  have hiv:=ints_len (ixs q)
  have hvl:=ivs_len p.length A
  have hfl:=fll n.fl
  (repeat' (conv=>whnf);first|(refine aC (fun _=>?_) (fun _=>?_)<;>try (exfalso;omega))|refine z2_S9 ?_|fail);all_goals try (conv=>whnf)
  refine LoopOb.mk (Y:=Nat) (st:=fun k=>⟨[(17,i64 k),(16, .vec 4),(11, .vec 3),(10, .vec 2),(6, .ptr 1 0),(4, .ptr 0 0),(1, .psl 3 (pks p))],[nbx n, .box [.psl 1 (trs ms)], .vec 1 (ivs p.length A), .vec 1 (ints (ixs q)), .vec 3 (pks ((pkq (toF n p) q).take k))]⟩)
   (inv:=fun k=>k≤q.length) (fun k=>q.length-k) 0 [0,1,2,3,4] (by omega) (by(exact aL)) ?_
  rintro k hk
  have hpk:=pks_len ((pkq (toF n p) q).take k)
  have hpk2:((pkq (toF n p) q).take k).length =k:=by rw [List.length_take,pkq_len];omega
  by_cases hkl:k<q.length
  ·obtain⟨x,hx⟩:∃x:Wt,q[k]=x:=⟨_,rfl⟩
   have hxq:x∈q:=by rw [←hx];exact List.getElem_mem hkl
   obtain⟨x1,x2,x3⟩:=hq1 x hxq
   have hxa:=hA x hxq
   have gw:(ints (ixs q))[k]? =some [i64 x.i]:=by simp [ints,ixs,hkl,hx]
   have gp:=pks_get x1
   obtain⟨f1,f2⟩:=hR.f x.i x1
   have hfg:=flg (l:=n.fl) (i:=(p.getD x.i pk0).f.toNat) (by omega)
   have ga:=ivs_get (f:=A) x1
   have hnx:pks ((pkq (toF n p) q).take k)++[[i64 (pfl n (p.getD x.i pk0)).cl,i64 x.a,i64 (p.getD x.i pk0).s]]=pks ((pkq (toF n p) q).take (k+1)):=by
    rw [List.take_succ_eq_append_getElem (by rw [pkq_len];exact hkl)]
    simp [pks,pkq,hx,toF,pkw]
   rw [hxa]at ga
   unfold pfl at hnx
   obtain⟨z,hz⟩:∃z,p.getD x.i pk0=z:=⟨_,rfl⟩
   rw [hz]at gp f1 f2 hfg hnx
   obtain⟨w,hw⟩:∃w,n.fl.getD z.f.toNat fl0=w:=⟨_,rfl⟩
   rw [hw]at hfg hnx
   (repeat' (conv=>whnf);first|refine⟨z.f.toNat,_,by omega,hfg,?_⟩|refine⟨x.i,_,rfl,gp,?_⟩|(refine aC (fun _=>?_) (fun _=>?_)<;>try (exfalso;omega))|refine z2_S9 ?_|refine⟨k,rfl,by omega,?_⟩|refine⟨x.i,rfl,by omega,?_⟩|refine⟨_,gw,?_⟩|refine⟨_,ga,?_⟩|fail);all_goals try (conv=>whnf)
   exact⟨k+1,[0,1,2,3,7],by omega,by omega,by rw [←hnx];(exact aL)⟩
  ·obtain rfl:k=q.length:=by omega
   have e:(pkq (toF n p) q).take q.length=pkq (toF n p) q:=List.take_of_length_le (by rw [pkq_len];omega)
   rw [e]
   (repeat' (conv=>whnf);first|(refine aC (fun _=>?_) (fun _=>?_)<;>try (exfalso;omega))|refine z3_S9 ?_|fail);all_goals try (conv=>whnf)
   refine .mk [.wk [4,3] ⟨[(8, .vec 0),(9, .vec 1)],[.vec 3 (pks (pkq (toF n p) q)), .vec 1 (ints (ixs q))]⟩] ?_
   refine⟨by(exact aL),?_⟩
   (repeat' (conv=>whnf);first|(refine aC (fun _=>?_) (fun _=>?_)<;>try (exfalso;omega))|refine z3_S9 ?_|fail);all_goals try (conv=>whnf)
   exact⟨rfl,rfl⟩
end Go.Proofs.YtaomhdljcdadaaaGreat
end
section
namespace Go.Proofs.YtaomhdljcdadaaaGreat
open Go.Sx Go.Pk Go.Mc Go.Np
set_option maxRecDepth 4000
set_option maxHeartbeats 2000000
abbrev wrs (F:Tf) (q:List Wt):List (List SV):=q.map (sRow (wcl F))
theorem wrs_len (F:Tf) (q:List Wt):(wrs F q).length =q.length:=by simp [wrs]
theorem aP_So2 {A B K:Prop} (k:K) (a:A:=by(simp only [zA,zT,zD,zC,zN,ints_len,zR,Go.Cv.vals_len];omega)) (b:B:=by(simp only [zA,zT,zD,zC,zN,ints_len,zR,Go.Cv.vals_len];omega)):(A∧B)∧K:=⟨⟨a,b⟩,k⟩
theorem z3_So2 {G H:Prop} (k:H) (h:H→G:=by first|exact fun r=>aS r|exact fun r=>aG r|exact fun r=>aD r|exact fun r=>aP_So2 r|exact fun r=>aI r|exact fun r=>aJ r|exact fun r=>aW (.qs [0,1,2,3,4,5,6,7] (.l 8 [2,0] (.l 9 [] (.qs [10,11,12,13,14] .nil) .no) .no)) r|exact fun r=>aW (.qs [0,1,2,3,4,5,6,7,8,9,10,11,12,13,14,15] (.l 16 [] (.l 17 [] (.qs [18] .nil) .no) .no)) r):G:=h k
theorem z2_So2 {G H:Prop} (k:H) (h:H→G:=by first|exact fun r=>aS r|exact fun r=>aG r|exact fun r=>aD r|exact fun r=>aH r|exact fun r=>aP_So2 r|exact fun r=>aI r|exact fun r=>aJ r|exact fun r=>aW (.qs [0,1,2,3,4,5,6,7] (.l 8 [2,0] (.l 9 [] (.qs [10,11,12,13,14] .nil) .no) .no)) r|exact fun r=>aW (.qs [0,1,2,3,4,5,6,7,8,9,10,11,12,13,14,15] (.l 16 [] (.l 17 [] (.qs [18] .nil) .no) .no)) r|exact fun r=>aW (.qs [0,1,2,5,6,7] (.l 3 [7] (.l 4 [7] (.l 8 [] (.l 9 [] (.qs [10,11] .nil) .no) .no) (.l 8 [] (.l 4 [] (.l 9 [] (.qs [10,11] .nil) .no) .no) .no)) (.l 8 [2] (.l 3 [] (.l 4 [] (.l 9 [] (.qs [10,11] .nil) .no) .no) .no) .no))) r):G:=h k
theorem z1_So2 {G H:Prop} (k:H) (h:H→G:=by first|exact fun r=>aS r|exact fun r=>aG r|exact fun r=>aD r|exact fun r=>aH r|exact fun r=>aP_So2 r|exact fun r=>aI r|exact fun r=>aJ r|exact fun r=>aW (.qs [0,1,2,3,4,5,6,7] (.l 8 [2,0] (.l 9 [] (.qs [10,11,12,13,14] .nil) .no) .no)) r|exact fun r=>aW (.qs [0,1,2,3,4,5,6,7,8,9,10,11,12,13,14,15] (.l 16 [] (.l 17 [] (.qs [18] .nil) .no) .no)) r):G:=h k
theorem PQu_ok (n:Nt) (hn:NL n) (p:List Pk) (hp:p.length≤60) (hR:RtP n p) (ms:List (List Int)) (hm:MsL ms) (l:Int):Ctr Tryz.prog 50 [ntv n, .psl 3 (pks p), .agg [.psl 1 (trs ms)],i64 l] [] (QuR (toF n p) (quL n p (dR ms) l p.length)):=by
 refine fn_intro (E:=env 0) tys_ok rfl rfl rfl Tryz.func50 (by kernel_rfl) rfl (by kernel_rfl) ?_
 have hpl:=pks_len p
 have hfl:=fll n.fl
 (repeat' (conv=>whnf);first|(refine aC (fun _=>?_) (fun _=>?_)<;>try (exfalso;omega))|refine z1_So2 ?_|fail);all_goals try (conv=>whnf)
 refine LoopOb.mk (Y:=Nat) (st:=fun i=>⟨[(19,i64 i),(18,i64 (pks p).length),(17, .psl 3 (pks p)),(10, .vec 4),(9, .vec 3),(8, .vec 2),(6, .ptr 1 0),(4, .ptr 0 0),(1, .psl 3 (pks p)),(3,i64 l)],[nbx n, .box [.psl 1 (trs ms)], .vec 3 [], .vec 1 [], .vec 5 (wrs (toF n p) (arQ n p (dR ms) l i))]⟩)
  (inv:=fun i=>i≤p.length) (fun i=>p.length-i) 0 [0,1,2,3,4] (by omega) (by(exact aL)) ?_
 rintro i hi
 have hq1:=arQ_len (n:=n) (p:=p) (D:=dR ms) (l:=l) i
 have hwl:=wrs_len (toF n p) (arQ n p (dR ms) l i)
 by_cases hil:i<p.length
 ·have hnx:arQ n p (dR ms) l (i+1)=match arL n p (dR ms) l i with
   |none=>arQ n p (dR ms) l i
   |some a=>arQ n p (dR ms) l i++[⟨a,(p.getD i pk0).f,i⟩]:=rfl
  have hpx:∀a,wcl (toF n p) ⟨a,(p.getD i pk0).f,i⟩=[(pfl n (p.getD i pk0)).cl,a,(p.getD i pk0).s,(p.getD i pk0).f,(i:Int)]:=fun _=>rfl
  generalize arQ n p (dR ms) l i=q at*
  have hg:=pks_get hil
  have haO:=arO_arL (D:=dR ms) (l:=l) hR hil
  obtain⟨f1,f2⟩:=hR.f i hil
  have hfg:=flg (l:=n.fl) (i:=(p.getD i pk0).f.toNat) (by omega)
  unfold pfl at hpx
  obtain⟨x,hx⟩:∃x,p.getD i pk0=x:=⟨_,rfl⟩
  rw [hx]at hg haO hnx hpx f1 f2 hfg
  (repeat' (conv=>whnf);first|refine⟨i,_,rfl,hg,?_⟩|(refine aC (fun _=>?_) (fun _=>?_)<;>try (exfalso;omega))|refine z1_So2 ?_|fail);all_goals try (conv=>whnf)
  refine aK [] (Hop_ok n hn x.f l) ?_
  (repeat' (conv=>whnf);first|(refine aC (fun _=>?_) (fun _=>?_)<;>try (exfalso;omega))|refine z1_So2 ?_|fail);all_goals try (conv=>whnf)
  refine aK [] (Arr_ok n hn p (by omega) ms hm i (hop n x.f l)) ?_
  rw [haO]
  clear haO
  cases ha:arL n p (dR ms) l i with
  |none=>
   rw [ha]at hnx
   dsimp only at hnx
   simp only [arrT]
   (repeat' (conv=>whnf);first|(refine aC (fun _=>?_) (fun _=>?_)<;>try (exfalso;omega))|refine z1_So2 ?_|fail);all_goals try (conv=>whnf)
   exact⟨i+1,[0,1,2,3,4],by omega,by omega,by rw [hnx];(exact aL)⟩
  |some a=>
   rw [ha]at hnx
   dsimp only at hnx
   simp only [arrT]
   have hpx:=hpx a
   obtain⟨w,hw⟩:∃w,n.fl.getD x.f.toNat fl0=w:=⟨_,rfl⟩
   rw [hw]at hfg hpx
   have hrow:wrs (toF n p) q++[[i64 w.cl,i64 a,i64 x.s,i64 x.f,i64 (i:Int)]]=wrs (toF n p) (arQ n p (dR ms) l (i+1)):=by
    rw [hnx];unfold wrs sRow;rw [List.map_append,List.map_singleton,hpx];rfl
   (repeat' (conv=>whnf);first|refine⟨x.f.toNat,_,by omega,hfg,?_⟩|(refine aC (fun _=>?_) (fun _=>?_)<;>try (exfalso;omega))|refine z1_So2 ?_|fail);all_goals try (conv=>whnf)
   exact⟨i+1,[0,1,2,3,7],by omega,by omega,by rw [←hrow];(exact aL)⟩
 ·obtain rfl:i=p.length:=by omega
  (repeat' (conv=>whnf);first|(refine aC (fun _=>?_) (fun _=>?_)<;>try (exfalso;omega))|refine z1_So2 ?_|fail);all_goals try (conv=>whnf)
  refine aM [4] (sortW_ok (toF n p) (arQ n p (dR ms) l p.length) (by omega)) rfl rfl ?_
  rintro _ _ ⟨rfl,q',hpm,hso,rfl⟩
  have hq:=sort_quL hpm hso
  subst hq
  generalize hqq:quL n p (dR ms) l p.length=q at*
  have hql:q.length≤p.length:=by rw [←hqq];exact quL_len p.length
  have hwl2:=wrs_len (toF n p) q
  (repeat' (conv=>whnf);first|(refine aC (fun _=>?_) (fun _=>?_)<;>try (exfalso;omega))|refine z1_So2 ?_|fail);all_goals try (conv=>whnf)
  refine LoopOb.mk (Y:=Nat) (st:=fun k=>⟨[(61,i64 k),(60,i64 (wrs (toF n p) q).length),(59, .vec 4),(9, .vec 3),(8, .vec 2)],[nbx n, .box [.psl 1 (trs ms)], .vec 3 (pks ((pkq (toF n p) q).take k)), .vec 1 (ints ((ixs q).take k)), .vec 5 (wrs (toF n p) q)]⟩)
   (inv:=fun k=>k≤q.length) (fun k=>q.length-k) 0 [0,1,2,3,4] (by omega) (by(exact aL)) ?_
  rintro k hk
  have hpk:=pks_len ((pkq (toF n p) q).take k)
  have hpk2:((pkq (toF n p) q).take k).length =k:=by rw [List.length_take,pkq_len];omega
  have hik:=ints_len ((ixs q).take k)
  have hik2:((ixs q).take k).length =k:=by rw [List.length_take,ixs_len];omega
  by_cases hkl:k<q.length
  ·obtain⟨x,hx⟩:∃x:Wt,q[k]=x:=⟨_,rfl⟩
   have gw:(wrs (toF n p) q)[k]? =some [i64 ((toF n p).cs x.i),i64 x.a,i64 ((toF n p).s x.i),i64 x.f,i64 (x.i:Int)]:=by simp [wrs,hkl,hx]
   have hnx:pks ((pkq (toF n p) q).take k)++[[i64 ((toF n p).cs x.i),i64 x.a,i64 ((toF n p).s x.i)]]=pks ((pkq (toF n p) q).take (k+1)):=by
    rw [List.take_succ_eq_append_getElem (by rw [pkq_len];exact hkl)]
    simp [pks,pkq,hx,pkw]
   have hnx2:ints ((ixs q).take k)++[[i64 (x.i:Int)]]=ints ((ixs q).take (k+1)):=by
    rw [List.take_succ_eq_append_getElem (by rw [ixs_len];exact hkl)]
    simp [ints,hx]
   (repeat' (conv=>whnf);first|(refine aC (fun _=>?_) (fun _=>?_)<;>try (exfalso;omega))|refine z1_So2 ?_|refine⟨k,rfl,by omega,?_⟩|refine⟨_,gw,?_⟩|fail);all_goals try (conv=>whnf)
   refine DrawOb.cut [] (.qs [0,1,2,5,6,7] (.l 3 [7] (.l 4 [7] (.l 8 [] (.l 9 [] (.qs [10,11] .nil) .no) .no) (.l 8 [] (.l 4 [] (.l 9 [] (.qs [10,11] .nil) .no) .no) .no)) (.l 8 [2] (.l 3 [] (.l 4 [] (.l 9 [] (.qs [10,11] .nil) .no) .no) .no) .no))) (Y:=Unit) (st:=fun _=>⟨[(61,i64 k),(60,i64 (wrs (toF n p) q).length),(59, .vec 4),(9, .vec 3),(8, .vec 2)],[nbx n, .box [.psl 1 (trs ms)], .vec 3 (pks ((pkq (toF n p) q).take (k+1))), .vec 1 (ints ((ixs q).take (k+1))), .vec 5 (wrs (toF n p) q)]⟩) (inv:=fun _=>True) (by decide+kernel) ?_ ?_
   ·(repeat' (conv=>whnf);first|(refine aC (fun _=>?_) (fun _=>?_)<;>try (exfalso;omega))|refine z2_So2 ?_|refine And.intro ?_ ?_|refine And.intro ?_ ?_|fail);all_goals try (conv=>whnf)
    ·exact⟨(),[0,1,7,9,4],trivial,by rw [←hnx,←hnx2];(exact aL)⟩
    ·exact⟨(),[0,1,8,9,4],trivial,by rw [←hnx,←hnx2];(exact aL)⟩
    ·exact⟨(),[0,1,8,9,4],trivial,by rw [←hnx,←hnx2];(exact aL)⟩
   ·rintro⟨⟩ _
    (repeat' (conv=>whnf);first|(refine aC (fun _=>?_) (fun _=>?_)<;>try (exfalso;omega))|refine z1_So2 ?_|fail);all_goals try (conv=>whnf)
    exact⟨k+1,[0,1,2,3,4],by omega,by omega,by(exact aL)⟩
  ·obtain rfl:k=q.length:=by omega
   have e:(pkq (toF n p) q).take q.length=pkq (toF n p) q:=List.take_of_length_le (by rw [pkq_len];omega)
   have e2:(ixs q).take q.length=ixs q:=List.take_of_length_le (by rw [ixs_len];omega)
   rw [e,e2]
   (repeat' (conv=>whnf);first|(refine aC (fun _=>?_) (fun _=>?_)<;>try (exfalso;omega))|refine z3_So2 ?_|fail);all_goals try (conv=>whnf)
   refine .mk [.wk [2,3] ⟨[(8, .vec 0),(9, .vec 1)],[.vec 3 (pks (pkq (toF n p) q)), .vec 1 (ints (ixs q))]⟩] ?_
   refine⟨by(exact aL),?_⟩
   (repeat' (conv=>whnf);first|(refine aC (fun _=>?_) (fun _=>?_)<;>try (exfalso;omega))|refine z3_So2 ?_|fail);all_goals try (conv=>whnf)
   exact⟨rfl,rfl⟩
end Go.Proofs.YtaomhdljcdadaaaGreat
end
