/- Lemmas of this seat. Conditions: as stated. -/
import Derived.Test.YtjhmjiimpmmnhaaGreatO1
import Derived.Test.YtjhmjiimpmmnhaaGreatW3
import Derived.Test.YtjhmjiimpmmnhaaGreatJ8
import Derived.Test.YtjhmjiimpmmnhaaGreatN6
import Derived.Test.YtjhmjiimpmmnhaaGreatPl
import Derived.Test.YtjhmjiimpmmnhaaGreatMq
import Derived.Test.YtjhmjiimpmmnhaaGreatSxR
import Derived.Test.YtjhmjiimpmmnhaaGreatMp
import Derived.Test.YtjhmjiimpmmnhaaGreatT1
import Derived.Test.YtjhmjiimpmmnhaaGreatS7
import Derived.Test.YtjhmjiimpmmnhaaGreatSo7
import Derived.Test.YtjhmjiimpmmnhaaGreatMtt
import Derived.Test.YtjhmjiimpmmnhaaGreatR1
set_option linter.unusedVariables false
set_option linter.unusedSimpArgs false
set_option maxHeartbeats 2000000
set_option maxRecDepth 8000
namespace Go.Proofs.YtjhmjiimpmmnhaaGreat
section
open Go.Sx Go.Pk Go.Mc Go.Np Go.Cv
theorem SkP.vld {n:Nt} {p:List Pk} (h:SkP n p):Vld p:=by
 have hc8:=chk_n h.h
 refine⟨h.l,fun i hi=>?_,h.o⟩
 obtain⟨f1,f2,t1,t2,hRt,s1,s2⟩:=h.fl hi
 have:=hRt.s1
 have:=hRt.s2
 unfold bad;omega
def KpN (n:Nt) (p:List Pk) (m:Nat):Prop:=∀i,i<m→Kp (csm p i) (cv (ctc (n.fl.getD i fl0))) (endN p)
theorem OKee_ok (n:Nt) (hn:NL n) (p:List Pk) (h:SkP n p):Ctr Tryz.prog 54 [ntv n, .psl 3 (pks p)] [] (fun r o=>o=[]∧∃b:Bool,(b=true↔KpN n p n.fl.length)∧r= .bl b):=by
 refine fI 0 Tryz.func54 ?_
 have h60:=h.l
 have hpl:=pks_len p
 have hfl:=fll n.fl
 have hnf:=hn.fl
 have hv:=SkP.vld h
 (repeat' (conv=>whnf);first|refine aC ?_ ?_<;>intro<;>try omega|refine z2_T1 ?_|fail);all_goals try (conv=>whnf)
 refine aK [] (SChk_ok n hn p (by omega)) ?_
 rw [sck_zero.2 h]
 (repeat' (conv=>whnf);first|refine aC ?_ ?_<;>intro<;>try omega|refine z2_T1 ?_|fail);all_goals try (conv=>whnf)
 refine LoopOb.mk (Y:=Nat) (st:=fun i=>⟨[(14,i64 i),(13,i64 (fls n.fl).length),(12, .psl 8 (fls n.fl)),(2, .ptr 0 0),(1, .psl 3 (pks p))],[nbx n]⟩)
  (inv:=fun i=>i≤n.fl.length∧KpN n p i) (fun i=>n.fl.length-i) 0 [0] ⟨Nat.zero_le _,fun i hi=>by omega⟩ (by(exact aL)) ?_
 rintro i ⟨hi,hk⟩
 by_cases hil:i<n.fl.length
 ·have hfg:=flg (l:=n.fl) (i:=i) hil
  obtain⟨c1,c2,c3,c4⟩:=chk_ct h.h i hil
  have cK:=Keeps_ok p hv i (by omega) (ctc (n.fl.getD i fl0)) c1
  have hk1:Kp (csm p i) (cv (ctc (n.fl.getD i fl0))) (endN p)→KpN n p (i+1):=fun hq j hj=>by
   by_cases e:j=i
   ·subst e;exact hq
   ·exact hk j (by omega)
  have hk2:KpN n p n.fl.length→Kp (csm p i) (cv (ctc (n.fl.getD i fl0))) (endN p):=fun hq=>hq i hil
  generalize Kp (csm p i) (cv (ctc (n.fl.getD i fl0))) (endN p)=Q at*
  generalize n.fl.getD i fl0=f at*
  (repeat' (conv=>whnf);first|refine⟨i,_,rfl,hfg,?_⟩|refine aC ?_ ?_<;>intro<;>try omega|refine z2_T1 ?_|(refine CallOb.mk [] cK rfl ⟨Imp.refl _,Imp.refl _,Imp.agg ⟨Imp.refl _,Imp.num (show f.p=((f.p.toNat:Nat):Int)by omega),Imp.refl _,trivial⟩,trivial⟩ rfl rfl ?_;rintro _ _ ⟨rfl,rfl⟩)|fail);all_goals try (conv=>whnf)
  all_goals first
   |exact⟨rfl,false,⟨fun e=>(by cases e),fun e=>absurd (hk2 e) (by assumption)⟩,rfl⟩
   |exact⟨i+1,[0],⟨by omega,hk1 (Classical.not_not.1 (by assumption))⟩,by omega,by(exact aL)⟩
   |exact⟨i+1,[0],⟨by omega,hk1 (by assumption)⟩,by omega,by(exact aL)⟩
   |trace_state
 ·obtain rfl:i=n.fl.length:=by omega
  (repeat' (conv=>whnf);first|refine aC ?_ ?_<;>intro<;>try omega|refine z2_T1 ?_|fail);all_goals try (conv=>whnf)
  exact⟨rfl,true,⟨fun _=>hk,fun _=>rfl⟩,rfl⟩
end
section
open Go.Sx Go.Pk Go.Mc Go.Np Go.Cv
def KpAll (n:Nt) (p:List Pk):Prop:=SkP n p∧KpN n p n.fl.length
theorem OKeeG_ok (n:Nt) (hn:NL n) (p:List Pk) (hp:p.length≤1000):Ctr Tryz.prog 54 [ntv n, .psl 3 (pks p)] [] (fun r o=>o=[]∧∃b:Bool,(b=true↔KpAll n p)∧r= .bl b):=by
 by_cases h:SkP n p
 ·exact(OKee_ok n hn p h).mono fun r o ⟨h1,b,h2,h3⟩=>⟨h1,b,h2.trans ⟨fun c=>⟨h,c⟩,fun c=>c.2⟩,h3⟩
 ·refine fI 0 Tryz.func54 ?_
  have cS:=SChk_ok n hn p (by omega)
  have h0:sck n p≠0:=fun c=>h (sck_zero.1 c)
  generalize sck n p=e at*
  (repeat' (conv=>whnf);first|refine aC ?_ ?_<;>intro<;>try omega|refine z1_C1 ?_|(refine aK [] (cS) ?_)|fail);all_goals try (conv=>whnf)
  all_goals exact⟨rfl,false,⟨fun e=>(by cases e),fun e=>absurd e.1 h⟩,rfl⟩
end
section
open Go.Sx Go.Cv Go.Gd Go.Np Go.Pk Go.St Go.Mc
def CkP (n:Nt) (a:Atk):Prop:=KpAll n a.p∧0≤a.a∧a.a<a.p.length∧(a.p.getD a.a.toNat pk0).f =a.f∧enO n a.p (dR (rnG n a.p 1000).1) a.a=some a.d
theorem z1_J10 {G H:Prop} (k:H) (h:H→G:=by first|exact fun r=>aS r|exact fun r=>aG r|exact fun r=>aD r|exact fun r=>aH r|exact fun r=>aP_T11 r|exact fun r=>aI r|exact fun r=>aJ r|exact fun r=>aW (.qs [0,1,2] (.l 3 [] (.qs [4,5,6,7,8,9,10,11,12,13,14,15,16,17,18,19,20,21,22,23,24,25,26,27,28,29] .nil) .no)) r):G:=h k
theorem Check37_ok (n:Nt) (hn:NL n) (a:Atk) (ha:a.p.length≤1000):Ctr Tryz.prog 25 [ntv n,atw a] [] (fun r o=>o=[]∧r= .bp (CkP n a)):=by
 refine Ctr.imp ?_
 obtain⟨p,f,q,d⟩:=a
 dsimp only [atw]at ha⊢
 refine fI 0 Tryz.func25 ?_
 have hpl:=pks_len p
 obtain⟨B,hB⟩:∃B:Bool,B=true↔KpAll n p:=by
  by_cases h:KpAll n p
  ·exact⟨true,fun _=>h,fun _=>rfl⟩
  ·exact⟨false,fun c=>(by cases c),fun c=>absurd c h⟩
 have cK:=(OKeeG_ok n hn p ha).mono fun r o h=>(by obtain⟨h1,b,h2,h3⟩:=h;exact⟨h1,by rw [h3,Bool.eq_iff_iff.2 (h2.trans hB.symm)]⟩:o=[]∧r= .bl B)
 by_cases hg:KpAll n p∧0≤q∧q<p.length∧(p.getD q.toNat pk0).f =f
 ·obtain⟨hk,q0,q1,hf⟩:=hg
  rw [show B=true from hB.2 hk]at cK
  have hC:CkP n ⟨p,f,q,d⟩↔enO n p (dR (rnG n p 1000).1) q=some d:=⟨fun h=>h.2.2.2.2,fun h=>⟨hk,q0,q1,hf,h⟩⟩
  have cR:=RunG_ok n hn p ha 1000
  have hr:=rnG_in hk.1 (show(0:Int)≤1000 by decide) (by decide)
  rw [hr]at cR hC
  have cE:=OEnd_ok n hn p hk.1 _ (MsL.of hk.1 (by decide) (trR_sh hk.1.rts):MsL (trR (toF n p) (liN n) (1000:Int).toNat)) q
  have hg:=pks_get (l:=p) (j:=q.toNat) (by omega)
  generalize p.getD q.toNat pk0=x at*
  dsimp only [rnV]at cR hC
  generalize enO n p (dR (trR (toF n p) (liN n) (1000:Int).toNat)) q=E at*
  cases E with
  |none=>
   simp only [arrT]at cE
   (repeat' (conv=>whnf);first|refine⟨q.toNat,_,by omega,hg,?_⟩|refine aC ?_ ?_<;>intro<;>try omega|refine z1_J10 ?_|(refine aK [] (cK) ?_)|(refine aK [] (cR) ?_)|(refine aK [] (cE) ?_)|fail);all_goals try (conv=>whnf)
   exact⟨rfl,Imp.bl ⟨fun c=>(by cases c),fun c=>absurd (hC.1 c) (by simp)⟩⟩
  |some y=>
   simp only [arrT]at cE
   (repeat' (conv=>whnf);first|refine⟨q.toNat,_,by omega,hg,?_⟩|refine aC ?_ ?_<;>intro<;>try omega|refine z1_J10 ?_|(refine aK [] (cK) ?_)|(refine aK [] (cR) ?_)|(refine aK [] (cE) ?_)|fail);all_goals try (conv=>whnf)
   exact⟨rfl,Imp.bp (by rw [hC];simp)⟩
 ·have hC:¬CkP n ⟨p,f,q,d⟩:=fun h=>hg ⟨h.1,h.2.1,h.2.2.1,h.2.2.2.1⟩
  cases B with
  |false=>
   (repeat' (conv=>whnf);first|refine aC ?_ ?_<;>intro<;>try omega|refine z1_J10 ?_|(refine aK [] (cK) ?_)|fail);all_goals try (conv=>whnf)
   all_goals exact⟨rfl,Imp.bl ⟨fun c=>(by cases c),fun c=>absurd c hC⟩⟩
  |true=>
   have hk:=hB.1 rfl
   by_cases hq:0≤q∧q<p.length
   ·have hg2:=pks_get (l:=p) (j:=q.toNat) (by omega)
    have hf:¬(p.getD q.toNat pk0).f =f:=fun c=>hg ⟨hk,hq.1,hq.2,c⟩
    generalize p.getD q.toNat pk0=x at*
    (repeat' (conv=>whnf);first|refine⟨q.toNat,_,by omega,hg2,?_⟩|refine aC ?_ ?_<;>intro<;>try omega|refine z1_J10 ?_|(refine aK [] (cK) ?_)|fail);all_goals try (conv=>whnf)
    all_goals exact⟨rfl,Imp.bl ⟨fun c=>(by cases c),fun c=>absurd c hC⟩⟩
   ·(repeat' (conv=>whnf);first|refine aC ?_ ?_<;>intro<;>try omega|refine z1_J10 ?_|(refine aK [] (cK) ?_)|fail);all_goals try (conv=>whnf)
    all_goals exact⟨rfl,Imp.bl ⟨fun c=>(by cases c),fun c=>absurd c hC⟩⟩
end
end Go.Proofs.YtjhmjiimpmmnhaaGreat
section
namespace Go.Mc
open Go.Pk
def qu1 (F:Tf):List Wt:=(List.range F.np).map fun i=>⟨F.t i,F.fl i,i⟩
structure One (F:Tf):Prop where
 rt:∀i,i<F.np→F.rt i=[0]
 t:∀i j,i<j→j<F.np→F.t i≤F.t j
 f:∀i,i<F.np→F.fl i=0
theorem One.rts {F:Tf} (h:One F):Rts F:=fun i hi=>by rw [h.rt i hi];simp
theorem One.qu {F:Tf} (h:One F) (D:Tp):qu F D 0=qu1 F:=by
 refine(qu_ok F D 0).uniq ⟨?_,fun x=>?_⟩
 ·refine List.pairwise_iff_getElem.2 fun i j hi hj hij=>?_
  simp only [qu1,List.length_map,List.length_range]at hi hj
  simp only [qu1,List.getElem_map,List.getElem_range]
  have:=h.t i j hij hj
  have:=h.f i hi
  have:=h.f j hj
  unfold Wt.lt
  simp only
  omega
 ·unfold qu1 Arr
  simp only [List.mem_map,List.mem_range]
  constructor
  ·rintro⟨i,hi,rfl⟩
   refine⟨hi,⟨0,?_,?_⟩,rfl⟩
   ·unfold hp;rw [h.rt i hi];simp
   ·unfold arr;rw [if_pos rfl]
  ·rintro⟨hi,⟨k,hk,ha⟩,hf⟩
   refine⟨x.i,hi,?_⟩
   have hk0:k=0:=by
    unfold hp at hk;rw [h.rt _ hi]at hk;simp at hk;omega
   subst hk0
   unfold arr at ha
   rw [if_pos rfl]at ha
   exact Wt.ext' (Option.some.inj ha) hf.symm rfl
theorem One.tr {F:Tf} (h:One F) (Z:Li) (N:Nat) {i:Nat} (hi:i<F.np):tr F Z N i 0=(run (Z.C 0) (pkq F (qu1 F)) (Z.c 0) N).dn i:=by
 have hc:=tr_con h.rts Z N i 0 hi (by rw [h.rt i hi];simp)
 have hl:lin F i 0=0:=by unfold lin;rw [h.rt i hi];rfl
 rw [hc,hl]
 have hil:i<(qu1 F).length :=by simpa [qu1]using hi
 have hp:=(qu_ok F (Mc.tr F Z N) 0).plc (k:=i) (by rw [h.qu];exact hil)
 have hx:(Mc.qu F (Mc.tr F Z N) 0)[i]'(by rw [h.qu];exact hil)=⟨F.t i,F.fl i,i⟩:=by
  simp only [h.qu];simp [qu1]
 rw [hx]at hp
 unfold pas
 simp only at hp
 rw [hp,h.qu]
end Go.Mc
end
section
namespace Go.Mc
open Go.Pk Go.Np Go.Cv
abbrev l1L (c:Int):Ln:=⟨1,c,1,[],[]⟩
abbrev l1F (z:Int) (v:List Int) (p q:Int):Fl:=⟨⟨#[102]⟩,[0],0,1,z,v,p,q⟩
def l1N (c z:Int) (v:List Int) (p q:Int):Nt:=⟨[⟨#[97]⟩],[l1L c],[l1F z v p q]⟩
theorem l1_chk {c z:Int} {v:List Int} {p q:Int} (hc:1≤c∧c≤4000) (hz:1≤z∧z≤1500) (hv:ValidP v p q) (hf:FinP v) (h0:v.getD 0 0=0):chkN (l1N c z v p q)=0:=by
 refine chkN_ok (by simp [l1N]) rfl ?_ ?_
 ·intro j hj
  have h3:j=0:=by have:(l1N c z v p q).ln.length =1:=rfl;omega
  subst h3
  have e:(l1N c z v p q).nm.getD 0 bs0=lname 0∧(l1N c z v p q).ln.getD 0 ln0=l1L c:=⟨rfl,rfl⟩
  have hf:nmErr ((l1N c z v p q).nm.take 0) ((l1N c z v p q).nm.getD 0 bs0)=0:=by
   rw [e.1]
   exact nm_fresh (lname_word 0 (by omega)) (by simp)
  unfold lineE
  rw [hf,if_neg (by simp),e.2]
  unfold lnErr lsErr
  simp only
  repeat' split
  all_goals first
   |rfl
   |(exfalso;omega)
   |(rename_i h;exfalso;revert h;simp;done)
   |trace_state
 ·intro j hj
  have:j=0:=by have:(l1N c z v p q).fl.length =1:=rfl;omega
  subst this
  have hfr:nmErr (((l1N c z v p q).fl.take 0).map (·.nm)) ((l1N c z v p q).fl.getD 0 fl0).nm =0:=nm_fresh (fname_word 0 (by decide)) (by simp)
  have hr:routeE (l1N c z v p q).ln ((l1N c z v p q).fl.getD 0 fl0)=0:=rfl
  unfold flowE
  rw [hfr,if_neg (by simp),hr,if_neg (by simp)]
  have hG:(l1N c z v p q).fl.getD 0 fl0=l1F z v p q:=rfl
  rw [hG]
  unfold trafE
  rw [if_neg (by simp only;omega),if_neg (fun k=>k hv),if_neg (by simp only;omega),if_neg (fun k=>k hf)]
theorem l1_sk {c z:Int} {v:List Int} {p q:Int} (hc:chkN (l1N c z v p q)=0) {ts:List Int} (hz:1≤z) (hl:ts.length≤60) (hb:∀x∈ts,0≤x∧x≤380) (ho:∀i k,k≤i→i<ts.length→ts.getD k 0≤ts.getD i 0):
  SkP (l1N c z v p q) (ts.map fun t=>⟨0,t,z⟩):=by
 have hg:∀i,i<ts.length→(ts.map fun t=>(⟨0,t,z⟩:Pk)).getD i pk0=⟨0,ts.getD i 0,z⟩:=fun i hi=>by
  simp [List.getD_eq_getElem?_getD,hi]
 have hb':∀i,i<ts.length→0≤ts.getD i 0∧ts.getD i 0≤380:=fun i hi=>by
  rw [List.getD_eq_getElem?_getD,List.getElem?_eq_getElem hi];exact hb _ (List.getElem_mem hi)
 refine⟨hc,by rw [List.length_map];exact hl,fun i hi=>?_,fun i hi=>?_⟩
 ·rw [List.length_map]at hi
  rw [hg i hi]
  have:=hb' i hi
  have e1:(pfl (l1N c z v p q) ⟨0,ts.getD i 0,z⟩).lo =1:=rfl
  have e2:(pfl (l1N c z v p q) ⟨0,ts.getD i 0,z⟩).hi =z:=rfl
  have e3:(l1N c z v p q).fl.length =1:=rfl
  unfold bdP
  rw [e1,e2,e3]
  simp only
  omega
 ·rw [List.length_map]at hi
  rw [hg i hi]
  have h1:=hb' i hi
  unfold lst
  cases i with
  |zero=>simp only [↓reduceIte];omega
  |succ i=>
   have h2:=ho (i+1) i (by omega) hi
   simp only [Nat.add_sub_cancel]
   rw [hg i (by omega)]
   exact h2
theorem l1_one {c z:Int} {v:List Int} {p q:Int} {P:List Pk} (h:SkP (l1N c z v p q) P):One (toF (l1N c z v p q) P)∧pkq (toF (l1N c z v p q) P) (qu1 (toF (l1N c z v p q) P))=P:=by
 have h0:∀i,i<P.length→(P.getD i pk0).f =0:=fun i hi=>by
  have:=h.fl hi
  have e3:(l1N c z v p q).fl.length =1:=rfl
  omega
 have hp:∀i,i<P.length→pfl (l1N c z v p q) (P.getD i pk0)=l1F z v p q:=fun i hi=>by
  unfold pfl;rw [h0 i hi];rfl
 refine⟨⟨fun i hi=>?_,fun i j hij hj=>?_,fun i hi=>h0 i hi⟩,?_⟩
 ·show(pfl (l1N c z v p q) (P.getD i pk0)).rt.map Int.toNat=[0]
  rw [hp i hi];rfl
 ·exact h.mono (by omega) hj
 ·refine List.ext_getElem (by simp [pkq,qu1,toF]) fun i h1 h2=>?_
  have e:P.getD i pk0=P[i]:=by rw [List.getD_eq_getElem?_getD,List.getElem?_eq_getElem h2];rfl
  have e0:=h0 i h2
  have ep:=hp i h2
  rw [e]at e0 ep
  simp only [pkq,qu1,List.getElem_map,List.getElem_range,toF,e,ep]
  rw [←e0]
theorem l1_tr {c z:Int} {v:List Int} {p q:Int} {P:List Pk} (h:SkP (l1N c z v p q) P) {Z:Li} (N:Nat) {i:Nat} (hi:i<P.length):tr (toF (l1N c z v p q) P) Z N i 0=(run (Z.C 0) P (Z.c 0) N).dn i:=by
 obtain⟨h1,h2⟩:=l1_one h
 rw [h1.tr Z N hi,h2]
end Go.Mc
end
