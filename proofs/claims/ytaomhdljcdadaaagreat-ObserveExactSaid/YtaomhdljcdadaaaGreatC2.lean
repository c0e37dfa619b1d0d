/- Lemmas of this seat. Conditions: as stated. -/
import Derived.Test.YtaomhdljcdadaaaGreatO5
import Derived.Test.YtaomhdljcdadaaaGreatS8
import Derived.Test.YtaomhdljcdadaaaGreatMtt
import Derived.Test.YtaomhdljcdadaaaGreatX1
import Derived.Test.YtaomhdljcdadaaaGreatNd
import Derived.Test.YtaomhdljcdadaaaGreatSxC
import Derived.Test.YtaomhdljcdadaaaGreatTy
import Derived.Shelf.SlLaysF0
import Derived.Shelf.SlLaysC2
import Derived.Shelf.Lays
import Derived.Test.YtaomhdljcdadaaaGreatN9
import Derived.Shelf.SlSortCmp.NoneTotal
import Derived.Test.YtaomhdljcdadaaaGreatT1
import Derived.Test.YtaomhdljcdadaaaGreatMs
set_option linter.unusedVariables false
set_option linter.unusedSimpArgs false
set_option maxHeartbeats 2000000
set_option maxRecDepth 8000
namespace Go.Proofs.YtaomhdljcdadaaaGreat
section
open Go.Sx Go.Pk Go.Cv Go.St
theorem vint {F:Nat→Int} {n t:Nat} (h:t<n):(ints (vals F n))[t]? =some [i64 (F t)]:=by
 have:=ints_get (l:=vals F n) (j:=t) (by rw [vals_len];exact h)
 rw [vals_get h]at this;exact this
theorem endN_le {p:List Pk} (hv:Vld p):endN p≤2001:=by
 have hp:=hv.l
 unfold endN
 split
 ·omega
 ·rename_i i hi
  have:=hv.g i (by omega)
  unfold bad at this;omega
def VioR (A F:Nat→Int) (N:Nat) (x:Int×Int×Bool):Prop:=
 (∃s t:Nat,s<t∧t≤N∧F (t-s)<A t-A s∧x=((s:Int),(t:Int),true))∨(Kp A F N∧x=(0,0,false))
theorem z1_C2 {G H:Prop} (k:H) (h:H→G:=by first|exact fun r=>aS r|exact fun r=>aG r|exact fun r=>aD r|exact fun r=>aH r|exact fun r=>aP_C1 r|exact fun r=>aI r|exact fun r=>aJ r|exact fun r=>aW (.qs [0,1,2,3,4,5,6,7,8,9] .nil) r|exact fun r=>aW (.qs [0,1,2,3,4,5,6,7,8,9,10,11,12,13,14,15] .nil) r):G:=h k
theorem Violation_ok (p:List Pk) (hv:Vld p) (flow:Int) (hf: -1≤flow) (f:C3) (vf:VC f):Ctr Tryz.prog 99 [.psl 3 (pks p),i64 flow,crv f.1 f.2.1 f.2.2] [] (fun r o=>∃x:Int×Int×Bool,VioR (csm p flow) (cv f) (endN p) x∧o=[]∧r= .tup [i64 x.1,i64 x.2.1, .bl x.2.2,i64 0]):=by
 refine Ctr.impE ?_
 refine fI 0 Tryz.func99 ?_
 have hN:=endN_le hv
 have hC:=csm_cum hv flow
 have hA:=fun t=>csm_bd hv flow t
 have cS:=sums_ok p hv flow
 have cT:=Table_ok f vf (endN p+1) (by omega)
 have hF0:∀t,0≤cv f t:=fun t=>cv_nonneg vf t
 have hFm:∀{s t:Nat},s≤t→cv f s≤cv f t:=fun h=>vf.cvle h
 generalize csm p flow=A at*
 generalize endN p=N at*
 generalize hF:cv f=F at*
 have hal:(ints (vals A (N+1))).length =N+1:=by rw [ints_len,vals_len]
 have hwl:(ints (vals F (N+1))).length =N+1:=by rw [ints_len,vals_len]
 have hAg:=fun t (h:t<N+1)=>vint (F:=A) h
 have hFg:=fun t (h:t<N+1)=>vint (F:=F) h
 have hFb:∀t,t≤N→F t≤6000000000000000000:=fun t ht=>by rw [←hF];exact(vc_bd vf (by omega)).2
 generalize ints (vals A (N+1))=VA at*
 generalize ints (vals F (N+1))=VF at*
 (repeat' (conv=>whnf);first|refine aC ?_ ?_<;>intro<;>try omega|refine z1_C2 ?_|(refine aK [] (cCheck_ok p hv flow hf f vf) ?_)|(refine aK [] cS ?_)|(refine CallOb.mk [] cT rfl ⟨Imp.refl _,Imp.num (by omega),trivial⟩ rfl rfl ?_;rintro _ _ ⟨rfl,rfl⟩)|fail);all_goals try (conv=>whnf)
 refine LoopOb.mk (Y:=Nat) (st:=fun t=>⟨[(13,i64 t),(12, .psl 1 VF),(11, .psl 1 VA)],[]⟩)
  (inv:=fun t=>(1≤t∧t≤N+1)∧∀t',t'<t→∀s,s<t'→A t'-A s≤F (t'-s)) (fun t=>N+1-t) 1 [] ⟨by omega,fun t' h s hs=>by omega⟩ (by(exact aL)) ?_
 rintro t ⟨⟨ht1,ht⟩,hi⟩
 have hb1:=hA t
 have hb2:=hA (t-1)
 (repeat' (conv=>whnf);first|refine z1_C2 ?_|fail);all_goals try (conv=>whnf)
 refine CondOb.mk (fun hlt=>?_) (fun hlt=>?_)
 ·have htN:t≤N:=by omega
  have g1:=hAg t (by omega)
  have g2:=hAg (t-1) (by omega)
  have hskip:A t=A (t-1)→∀t',t'<t+1→∀s,s<t'→A t'-A s≤F (t'-s):=fun he t' h s hs=>by
   by_cases e:t'=t
   ·subst e
    by_cases e2:s=t'-1
    ·have:=hF0 (t'-s);rw [←e2]at he;omega
    ·have h1:=hi (t'-1) (by omega) s (by omega)
     have h2:=hFm (s:=t'-1-s) (t:=t'-s) (by omega)
     omega
   ·exact hi t' (by omega) s hs
  (repeat' (conv=>whnf);first|refine⟨t-1,_,by omega,g2,?_⟩|refine⟨t,_,rfl,g1,?_⟩|refine aC ?_ ?_<;>intro<;>try omega|refine z1_C2 ?_|fail);all_goals try (conv=>whnf)
  ·exact⟨t+1,[],⟨by omega,hskip (by assumption)⟩,by omega,by(exact aL)⟩
  ·refine LoopOb.mk (Y:=Nat) (st:=fun m=>⟨[(14,i64 ((t:Int)-1-m)),(13,i64 t),(12, .psl 1 VF),(11, .psl 1 VA)],[]⟩)
    (inv:=fun m=>m≤t∧∀s,s<t→t-1-m<s∨m=t→A t-A s≤F (t-s)) (fun m=>t-m) 0 [] ⟨by omega,fun s hs h=>by omega⟩ (by(exact aL)) ?_
   rintro m ⟨hm,hmi⟩
   (repeat' (conv=>whnf);first|refine z1_C2 ?_|fail);all_goals try (conv=>whnf)
   refine CondOb.mk (fun hl2=>?_) (fun hl2=>?_)
   ·obtain⟨s,hs⟩:∃s:Nat,(t:Int)-1-m=s:=⟨t-1-m,by omega⟩
    have g3:=hAg s (by omega)
    have g4:=hFg (t-s) (by omega)
    have hb3:=hA s
    have hb4:=hF0 (t-s)
    have hb5:=hFb (t-s) (by omega)
    have hm2:¬F (t-s)<A t-A s→∀s',s'<t→t-1-(m+1)<s'∨m+1=t→A t-A s'≤F (t-s'):=fun hn s' h1 h2=>by
     by_cases e:s'=s
     ·subst e;omega
     ·exact hmi s' h1 (by omega)
    (repeat' (conv=>whnf);first|refine⟨t-s,_,by omega,g4,?_⟩|refine⟨s,_,by omega,g3,?_⟩|refine⟨t,_,rfl,g1,?_⟩|refine aC ?_ ?_<;>intro<;>try omega|refine z1_C2 ?_|fail);all_goals try (conv=>whnf)
    ·exact⟨((s:Int),(t:Int),true), .inl ⟨s,t,by omega,by omega,by assumption,rfl⟩,rfl,Imp.tup ⟨Imp.num (by omega),Imp.refl _,Imp.refl _,Imp.refl _,trivial⟩⟩
    ·exact⟨m+1,[],⟨by omega,hm2 (by assumption)⟩,by omega,by(exact aL)⟩
   ·have e:m=t:=by omega
    (repeat' (conv=>whnf);first|refine aC ?_ ?_<;>intro<;>try omega|refine z1_C2 ?_|fail);all_goals try (conv=>whnf)
    exact⟨t+1,[],⟨by omega,fun t' h s hs=>by
     by_cases e2:t'=t
     ·subst e2;exact hmi s hs (by omega)
     ·exact hi t' (by omega) s hs⟩,by omega,by(exact aL)⟩
 ·have e:t=N+1:=by omega
  subst e
  (repeat' (conv=>whnf);first|refine aC ?_ ?_<;>intro<;>try omega|refine z1_C2 ?_|fail);all_goals try (conv=>whnf)
  exact⟨(0,0,false), .inr ⟨fun s t h1 h2=>hi t (by omega) s h1,rfl⟩,rfl,Imp.refl _⟩
theorem Keeps_ok (p:List Pk) (hv:Vld p) (flow:Int) (hf: -1≤flow) (f:C3) (vf:VC f):Ctr Tryz.prog 69 [.psl 3 (pks p),i64 flow,crv f.1 f.2.1 f.2.2] [] (fun r o=>o=[]∧r= .bp (Kp (csm p flow) (cv f) (endN p))):=by
 refine Ctr.imp ?_
 refine fI 0 Tryz.func69 ?_
 (repeat' (conv=>whnf);first|refine aC ?_ ?_<;>intro<;>try omega|refine z1_C1 ?_|fail);all_goals try (conv=>whnf)
 refine aM [] (Violation_ok p hv flow hf f vf) rfl rfl ?_
 rintro _ _ ⟨x,hx,rfl,rfl⟩
 rcases hx with⟨s,t,h1,h2,h3,rfl⟩|⟨hk,rfl⟩
 ·dsimp only
  (repeat' (conv=>whnf);first|refine aC ?_ ?_<;>intro<;>try omega|refine z1_C1 ?_|fail);all_goals try (conv=>whnf)
  exact⟨rfl,Imp.bl ⟨fun h=>(by cases h),fun h=>by have:=h s t h1 h2;omega⟩⟩
 ·dsimp only
  (repeat' (conv=>whnf);first|refine aC ?_ ?_<;>intro<;>try omega|refine z1_C1 ?_|fail);all_goals try (conv=>whnf)
  exact⟨rfl,Imp.bl ⟨fun _=>hk,fun _=>rfl⟩⟩
end
section
open Go.Sx Go.Pk Go.Mc Go.Np Go.Tp Go.Cv
theorem SkP.vld {n:Nt} {p:List Pk} (h:SkP n p):Vld p:=by
 have hc8:=chk_n h.h
 refine⟨h.l,fun i hi=>?_,h.o⟩
 obtain⟨f1,f2,t1,t2,hRt,s1,s2⟩:=h.fl hi
 have:=hRt.s1
 have:=hRt.s2
 unfold bad;omega
def KpN (n:Nt) (p:List Pk) (m:Nat):Prop:=∀i,i<m→Kp (csm p i) (cv (ctc (n.fl.getD i fl0))) (endN p)
theorem OKee_ok (n:Nt) (hn:NL n) (p:List Pk) (h:SkP n p):Ctr Tryz.prog 27 [ntv n, .psl 3 (pks p)] [] (fun r o=>o=[]∧∃b:Bool,(b=true↔KpN n p n.fl.length)∧r= .bl b):=by
 refine fI 0 Tryz.func27 ?_
 have h60:=h.l
 have hpl:=pks_len p
 have hfl:=fll n.fl
 have hnf:=hn.fl
 have hv:=SkP.vld h
 (repeat' (conv=>whnf);first|refine aC ?_ ?_<;>intro<;>try omega|refine z2_T1 ?_|fail);all_goals try (conv=>whnf)
 refine aK [] (SChk_ok n hn p (by omega)) ?_
 rw [sck_zero.2 h]
 (repeat' (conv=>whnf);first|refine aC ?_ ?_<;>intro<;>try omega|refine z2_T1 ?_|fail);all_goals try (conv=>whnf)
 refine LoopOb.mk (Y:=Nat) (st:=fun i=>⟨[(14,i64 i),(13,i64 (fls n.fl).length),(12, .psl 8 (fls n.fl)),(2, .ptr 0 0),(1, .psl 3 (pks p))],[nbx n]⟩)
  (inv:=fun i=>i≤n.fl.length∧KpN n p i) (fun i=>n.fl.length-i) 0 [0] ⟨Nat.zero_le _,fun i hi=>by omega⟩ (by(exact aL)) ?_
 rintro i ⟨hi,hk⟩
 by_cases hil:i<n.fl.length
 ·have hfg:=flg (l:=n.fl) (i:=i) hil
  obtain⟨c1,c2,c3,c4⟩:=chk_ct h.h i hil
  have cK:=Keeps_ok p hv i (by omega) (ctc (n.fl.getD i fl0)) c1
  have hk1:Kp (csm p i) (cv (ctc (n.fl.getD i fl0))) (endN p)→KpN n p (i+1):=fun hq j hj=>by
   by_cases e:j=i
   ·subst e;exact hq
   ·exact hk j (by omega)
  have hk2:KpN n p n.fl.length→Kp (csm p i) (cv (ctc (n.fl.getD i fl0))) (endN p):=fun hq=>hq i hil
  generalize Kp (csm p i) (cv (ctc (n.fl.getD i fl0))) (endN p)=Q at*
  generalize n.fl.getD i fl0=f at*
  (repeat' (conv=>whnf);first|refine⟨i,_,rfl,hfg,?_⟩|refine aC ?_ ?_<;>intro<;>try omega|refine z2_T1 ?_|(refine CallOb.mk [] cK rfl ⟨Imp.refl _,Imp.refl _,Imp.agg ⟨Imp.refl _,Imp.num (show f.p=((f.p.toNat:Nat):Int)by omega),Imp.refl _,trivial⟩,trivial⟩ rfl rfl ?_;rintro _ _ ⟨rfl,rfl⟩)|fail);all_goals try (conv=>whnf)
  all_goals first
   |exact⟨rfl,false,⟨fun e=>(by cases e),fun e=>absurd (hk2 e) (by assumption)⟩,rfl⟩
   |exact⟨i+1,[0],⟨by omega,hk1 (Classical.not_not.1 (by assumption))⟩,by omega,by(exact aL)⟩
   |exact⟨i+1,[0],⟨by omega,hk1 (by assumption)⟩,by omega,by(exact aL)⟩
   |trace_state
 ·obtain rfl:i=n.fl.length:=by omega
  (repeat' (conv=>whnf);first|refine aC ?_ ?_<;>intro<;>try omega|refine z2_T1 ?_|fail);all_goals try (conv=>whnf)
  exact⟨rfl,true,⟨fun _=>hk,fun _=>rfl⟩,rfl⟩
end
end Go.Proofs.YtaomhdljcdadaaaGreat
section
namespace Go.Mc
open Go.Pk Go.Np Go.Cv
abbrev twL:Ln:=⟨1,10,1,[],[]⟩
end Go.Mc
end
section
namespace Go.Mc
open Go.Pk Go.Np Go.Cv
abbrev obF:Fl:=⟨⟨#[102]⟩,[0],0,1,100,[0,30],1,0⟩
def obN:Nt:=⟨[⟨#[97]⟩],[twL],[obF]⟩
abbrev obP:List Pk:=[⟨0,3,10⟩,⟨0,3,10⟩,⟨0,3,10⟩]
theorem ob_val:ValidP obF.v obF.p obF.q∧FinP obF.v:=by
 refine⟨⟨by decide,by decide,by decide,by decide,by decide,by decide,by decide,?_,?_,?_,?_⟩,by unfold FinP;decide⟩
 ·intro j hj
  have:j=0∨j=1:=by have:obF.v.length=2:=rfl;omega
  rcases this with rfl|rfl<;>decide
 ·intro j hj
  have:j=0:=by have:obF.v.length=2:=rfl;omega
  subst this;decide
 ·decide
 ·decide
theorem ob_chk:chkN obN=0:=by
 refine chkN_ok (by decide) rfl ?_ ?_
 ·intro j hj
  have h3:j=0:=by have:obN.ln.length=1:=rfl;omega
  subst h3
  have e:obN.nm.getD 0 bs0=lname 0∧obN.ln.getD 0 ln0=twL:=⟨rfl,rfl⟩
  have hf:nmErr (obN.nm.take 0) (obN.nm.getD 0 bs0)=0:=by
   rw [e.1]
   exact nm_fresh (lname_word 0 (by omega)) (by simp)
  unfold lineE
  rw [hf,if_neg (by simp),e.2]
  decide+kernel
 ·intro j hj
  have:j=0:=by have:obN.fl.length=1:=rfl;omega
  subst this
  have hf:nmErr ((obN.fl.take 0).map (·.nm)) (obN.fl.getD 0 fl0).nm =0:=nm_fresh (fname_word 0 (by decide)) (by simp)
  have hr:routeE obN.ln (obN.fl.getD 0 fl0)=0:=by decide+kernel
  unfold flowE
  rw [hf,if_neg (by simp),hr,if_neg (by simp)]
  have hG:obN.fl.getD 0 fl0=obF:=rfl
  rw [hG]
  unfold trafE
  rw [if_neg (by decide),if_neg (fun k=>k ob_val.1),if_neg (by decide),if_neg (fun k=>k ob_val.2)]
theorem ob_sk:SkP obN obP:=by
 refine⟨ob_chk,by decide,fun i hi=>?_,fun i hi=>?_⟩
 ·have:i=0∨i=1∨i=2:=by have:obP.length=3:=rfl;omega
  rcases this with rfl|rfl|rfl<;>decide
 ·have:i=0∨i=1∨i=2:=by have:obP.length=3:=rfl;omega
  rcases this with rfl|rfl|rfl<;>decide
end Go.Mc
end
namespace Go.Proofs.YtaomhdljcdadaaaGreat
section
open Go.Sx Go.Pk Go.Mc Go.Np Go.Tp Go.Cv
theorem ob_nl:NL obN:=by
 refine⟨by decide,by decide,by decide,fun s hs=>?_,fun l hl=>?_,fun f hf=>?_⟩
 ·simp only [obN,List.mem_cons,List.not_mem_nil,or_false]at hs
  subst hs;decide
 ·simp only [obN,List.mem_cons,List.not_mem_nil,or_false]at hl
  subst hl;decide
 ·simp only [obN,List.mem_cons,List.not_mem_nil,or_false]at hf
  subst hf;decide
abbrev obT:List (List Int):=[[3],[4],[5]]
theorem ob_ml:MsL obT:=by
 refine⟨by decide,fun i=>?_,fun i j=>?_⟩
 ·rcases(show i=0∨i=1∨i=2∨3≤i by omega)with rfl|rfl|rfl|h
  ·decide
  ·decide
  ·decide
  ·rw [List.getD_eq_getElem?_getD,List.getElem?_eq_none (by exact h)];decide
 ·have hj:∀v:Int,-10≤v∧v≤10→-4611686018427387904≤([v]:List Int).getD j 0∧([v]:List Int).getD j 0≤4611686018427387904:=fun v hv=>by
   rcases(show j=0∨1≤j by omega)with rfl|h
   ·simp only [List.getD_cons_zero];omega
   ·rw [List.getD_eq_getElem?_getD,List.getElem?_eq_none (by exact h)];decide
  rcases(show i=0∨i=1∨i=2∨3≤i by omega)with rfl|rfl|rfl|h
  ·exact hj 3 (by decide)
  ·exact hj 4 (by decide)
  ·exact hj 5 (by decide)
  ·rw [List.getD_eq_getElem?_getD (l:=obT),List.getElem?_eq_none (by exact h)];simp
theorem ob_wor:worF obN obP (dR obT) 0 3=⟨2,2,true⟩:=rfl
theorem ob_del:delO obN obP (dR obT) 0 0=some 0:=rfl
theorem ob_tell:tell obN obP (dR obT) 3=[⟨0,0,0⟩,⟨0,-1,0⟩,⟨1,0,1⟩,⟨1,-1,1⟩,⟨2,0,2⟩,⟨2,-1,2⟩]:=rfl
abbrev obD:List (List Int):=[[1]]
theorem ob_shape:ShapeP obN obD:=by
 refine⟨ob_chk,rfl,fun i hi=>?_,fun i hi j hj=>?_⟩
 ·obtain rfl:i=0:=by have:obD.length=1:=rfl;omega
  rfl
 ·obtain rfl:i=0:=by have:obD.length=1:=rfl;omega
  obtain rfl:j=0:=by have:(obD.getD 0 []).length =1:=rfl;omega
  decide
theorem ob_dl:DL obD:=⟨by decide,fun i=>by
 rcases(show i=0∨1≤i by omega)with rfl|h
 ·decide
 ·rw [List.getD_eq_getElem?_getD,List.getElem?_eq_none (by exact h)];decide⟩
theorem vioK_hop {n:Nt} {d:List (List Int)} {p:List Pk} {v:Vi} (h:0≤v.h):vioK n d p v=true↔(dly d (pfl n (p.getD v.k pk0)) v.h.toNat≠-1∧dly d (pfl n (p.getD v.k pk0)) v.h.toNat<v.x):=by
 unfold vioK;rw [decide_eq_true_iff,if_neg (by omega)]
theorem vioK_end {n:Nt} {d:List (List Int)} {p:List Pk} {v:Vi} (h:v.h<0):vioK n d p v=true↔∃b,endO n d (p.getD v.k pk0).f =some b∧b<v.x:=by
 unfold vioK;rw [decide_eq_true_iff,if_pos h]
theorem ob_vio:vioL obN obD obP (dR obT)=[⟨2,0,2⟩,⟨2,-1,2⟩]:=by
 have hd:dly obD (pfl obN (obP.getD 0 pk0)) 0=1∧dly obD (pfl obN (obP.getD 1 pk0)) 0=1∧dly obD (pfl obN (obP.getD 2 pk0)) 0=1:=⟨rfl,rfl,rfl⟩
 have he:endO obN obD (obP.getD 0 pk0).f =some 1∧endO obN obD (obP.getD 1 pk0).f =some 1∧endO obN obD (obP.getD 2 pk0).f =some 1:=⟨rfl,rfl,rfl⟩
 show(tell obN obP (dR obT) 3).filter (vioK obN obD obP)=_
 rw [ob_tell]
 rw [List.filter_cons_of_neg (fun h=>by have:=((vioK_hop (by decide)).1 h).2;exact absurd this (by show¬(dly obD (pfl obN (obP.getD 0 pk0)) 0<0);rw [hd.1];decide)),
  List.filter_cons_of_neg (fun h=>by obtain⟨b,e,c⟩:=(vioK_end (by decide)).1 h;rw [he.1]at e;injection e with e;subst e;exact absurd c (by decide)),
  List.filter_cons_of_neg (fun h=>by have:=((vioK_hop (by decide)).1 h).2;exact absurd this (by show¬(dly obD (pfl obN (obP.getD 1 pk0)) 0<1);rw [hd.2.1];decide)),
  List.filter_cons_of_neg (fun h=>by obtain⟨b,e,c⟩:=(vioK_end (by decide)).1 h;rw [he.2.1]at e;injection e with e;subst e;exact absurd c (by decide)),
  List.filter_cons_of_pos ((vioK_hop (by decide)).2 (by show dly obD (pfl obN (obP.getD 2 pk0)) 0≠-1∧dly obD (pfl obN (obP.getD 2 pk0)) 0<2;rw [hd.2.2];decide)),
  List.filter_cons_of_pos ((vioK_end (by decide)).2 ⟨1,he.2.2,by decide⟩),List.filter_nil]
theorem ob_wai:waiF obN obP (dR obT) 0 0 4 3=20:=by
 have h0:¬waiP obN obP (dR obT) 0 0 4 0:=fun⟨a,h1,h2,h3,h4⟩=>by have:=h4 3 rfl;omega
 have h1:waiP obN obP (dR obT) 0 0 4 1:=⟨3,rfl,by decide,rfl,fun d e=>by have:(4:Int)=d:=Option.some.inj e;omega⟩
 have h2:waiP obN obP (dR obT) 0 0 4 2:=⟨3,rfl,by decide,rfl,fun d e=>by have:(5:Int)=d:=Option.some.inj e;omega⟩
 rw [waiF_yes h2,waiF_yes h1,waiF_no h0];rfl
theorem ob_kee:KpN obN obP 1:=fun i hi=>by
 obtain rfl:i=0:=by omega
 have he:endN obP=4:=rfl
 rw [he]
 intro s t hst ht
 rcases(show t=1∨t=2∨t=3∨t=4 by omega)with rfl|rfl|rfl|rfl
 ·obtain rfl:s=0:=by omega
  decide+kernel
 ·rcases(show s=0∨s=1 by omega)with rfl|rfl<;>decide+kernel
 ·rcases(show s=0∨s=1∨s=2 by omega)with rfl|rfl|rfl<;>decide+kernel
 ·rcases(show s=0∨s=1∨s=2∨s=3 by omega)with rfl|rfl|rfl|rfl<;>decide+kernel
abbrev obv0:List SV:=[i64 1,i64 10,i64 1, .nil, .nil]
abbrev obv:List SV:=[.str ⟨#[102]⟩, .ful 1 [[i64 0]],i64 0,i64 1,i64 100, .psl 1 (ints (stv 30 1)),i64 1,i64 0]
theorem one36_ok:Ctr Tryz.prog 55 [] [] (fun r o=>o=[]∧r=ntv obN):=by
 refine Ctr.imp ?_
 refine fI 0 Tryz.func55 ?_
 have cS:=Stair_ok 30 1 0 (by decide)
 (repeat' (conv=>whnf);first|refine LitOb.ful ?_|refine aC ?_ ?_<;>intro<;>try omega|refine z2_T1 ?_|(refine aK [] cS ?_)|fail);all_goals try (conv=>whnf)
 have h0:ImpL obv0 (lnv twL):=⟨Imp.refl _,Imp.refl _,Imp.refl _,Imp.nil _,Imp.nil _,trivial⟩
 have h1:ImpL obv (flv obF):=⟨Imp.refl _,Imp.fulp rfl,Imp.refl _,Imp.refl _,Imp.refl _,Imp.refl _,Imp.refl _,Imp.refl _,trivial⟩
 exact⟨rfl,Imp.agg ⟨Imp.fulp rfl,Imp.fulr ⟨h0,trivial⟩,Imp.fulr ⟨h1,trivial⟩,trivial⟩⟩
theorem z2_O7 {G H:Prop} (k:H) (h:H→G:=by first|exact fun r=>aS r|exact fun r=>aG r|exact fun r=>aD r|exact fun r=>aH r|exact fun r=>aP_T1 r|exact fun r=>aI r|exact fun r=>aJ r|exact fun r=>aW (.qs [1,2] (.l 0 [2] (.l 3 [] (.qs [4,5,6,7,8,9,10] .nil) .no) .no)) r|exact fun r=>aW (.qs [1,2] (.l 0 [2] (.l 3 [] (.qs [4,5,6,7,8] .nil) .no) .no)) r|exact fun r=>aW (.qs [3,4] (.l 0 [4] (.l 1 [4] (.l 2 [4] (.l 5 [] (.qs [6] .nil) .no) .no) .no) (.l 1 [4] (.l 0 [4] (.l 2 [4] (.l 5 [] (.qs [6] .nil) .no) .no) (.l 2 [4] (.l 0 [4] (.l 5 [] (.qs [6] .nil) .no) .no) .no)) .no))) r|exact fun r=>aW (.qs [0,1,2,3,4,5,6,7,8,9,10,11,12,13,14,15,16,18] (.l 17 [] (.l 19 [] (.qs [20,21,22,23,24,25,26,27,28,29,30,31,32,33,34,35,36,37,38,39,40,42,43] (.l 41 [43] (.l 44 [] (.qs [45,46,47] .nil) .no) .no)) .no) .no)) r):G:=h k
theorem sane36_ok:Ctr Tryz.prog 12 [] [] (fun r o=>o=[]∧r= .bl true):=by
 refine Ctr.imp ?_
 refine fI 0 Tryz.func12 ?_
 have cW:=OWor_ok obN ob_nl obP ob_sk obT ob_ml 0
 rw [show obP.length=3 from rfl,ob_wor]at cW
 have cD:=ODel_ok obN ob_nl obP (by decide) (fun i hi=>by have:=ob_sk.fl hi;omega) obT ob_ml 0 0
 rw [ob_del]at cD
 have cV:=OVio_ok obN ob_nl obD ob_dl ob_shape obP ob_sk obT ob_ml
 rw [ob_vio]at cV
 have cK:=(OKee_ok obN ob_nl obP ob_sk).mono fun r o (h:o=[]∧∃b:Bool,(b=true↔KpN obN obP obN.fl.length)∧r= .bl b)=>(by obtain⟨h1,b,h2,h3⟩:=h;exact⟨h1,by rw [h3,h2.2 ob_kee]⟩:o=[]∧r= .bl true)
 have cG:=OWai_ok obN ob_nl obP ob_sk obT ob_ml 0 0 4
 rw [show obP.length=3 from rfl,ob_wai]at cG
 have iT:Imp (.agg [.ful 1 [[.ful 1 [[i64 3]]],[.ful 1 [[i64 4]]],[.ful 1 [[i64 5]]]]]) (.agg [.psl 1 (trs obT)]):=Imp.agg ⟨Imp.fulr ⟨⟨Imp.fulp rfl,trivial⟩,⟨Imp.fulp rfl,trivial⟩,⟨Imp.fulp rfl,trivial⟩,trivial⟩,trivial⟩
 have iP:Imp (.ful 3 [[i64 0,i64 3,i64 10],[i64 0,i64 3,i64 10],[i64 0,i64 3,i64 10]]) (.psl 3 (pks obP)):=Imp.fulp rfl
 have iD:Imp (.ful 1 [[.ful 1 [[i64 1]]]]) (.psl 1 (dls obD)):=Imp.fulr ⟨⟨Imp.fulp rfl,trivial⟩,trivial⟩
 have g0:(vis [⟨2,0,2⟩,⟨2,-1,2⟩])[0]? =some [i64 2,i64 0,i64 2]:=rfl
 have g1:(vis [⟨2,0,2⟩,⟨2,-1,2⟩])[1]? =some [i64 2,i64 (-1),i64 2]:=rfl
 have gl:(vis [⟨2,0,2⟩,⟨2,-1,2⟩]).length =2:=rfl
 generalize vis [⟨2,0,2⟩,⟨2,-1,2⟩]=VL at*
 (repeat' (conv=>whnf);first|refine⟨1,_,rfl,g1,?_⟩|refine⟨0,_,rfl,g0,?_⟩|refine LitOb.ful ?_|refine aC ?_ ?_<;>intro<;>try omega|refine z2_O7 ?_|(refine aK [] (one36_ok) ?_)|(refine CallOb.mk [] cW rfl ⟨Imp.refl _,iP,iT,Imp.refl _,trivial⟩ rfl rfl ?_;rintro _ _ ⟨rfl,rfl⟩)|(refine CallOb.mk [] cD rfl ⟨Imp.refl _,iP,iT,Imp.refl _,Imp.refl _,trivial⟩ rfl rfl ?_;rintro _ _ ⟨rfl,rfl⟩;simp only [arrT])|(refine CallOb.mk [] cV rfl ⟨Imp.refl _,iD,iP,iT,trivial⟩ rfl rfl ?_;rintro _ _ ⟨rfl,rfl⟩)|(refine CallOb.mk [] cK rfl ⟨Imp.refl _,iP,trivial⟩ rfl rfl ?_;rintro _ _ ⟨rfl,rfl⟩)|(refine CallOb.mk [] cG rfl ⟨Imp.refl _,iP,iT,Imp.refl _,Imp.refl _,Imp.refl _,trivial⟩ rfl rfl ?_;rintro _ _ ⟨rfl,rfl⟩)|refine And.intro ?_ ?_|fail);all_goals try (conv=>whnf)
 all_goals first
  |exact fun σ β v h=>by
    obtain⟨b,rfl,hb⟩:=h
    have:=hb.2 rfl
    subst this;rfl
  |(rename_i hc;refine absurd ?_ hc;simp [conj])
end
section
open Go.Sx Go.Pk Go.Mc Go.Np
instance :Inhabited Wt:=⟨⟨0,0,0⟩⟩
end
section
open Go.Sx Go.Pk Go.Mc
abbrev bls (m:Nat) (f:Nat→Bool):List (List SV):=(List.range m).map fun b=>[.bl (f b)]
abbrev ivs (m:Nat) (f:Nat→Int):List (List SV):=(List.range m).map fun b=>[i64 (f b)]
theorem bls_len (m:Nat) (f:Nat→Bool):(bls m f).length =m:=by simp [bls]
theorem ivs_len (m:Nat) (f:Nat→Int):(ivs m f).length =m:=by simp [ivs]
theorem bls_get {m b:Nat} {f:Nat→Bool} (h:b<m):(bls m f)[b]? =some [.bl (f b)]:=by simp [bls,h]
theorem ivs_get {m b:Nat} {f:Nat→Int} (h:b<m):(ivs m f)[b]? =some [i64 (f b)]:=by simp [ivs,h]
theorem map_upd {α β:Type} {m b:Nat} {f:Nat→α} {v:α} {g:α→β}:((List.range m).map fun i=>g (f i)).set b (g v)=(List.range m).map fun i=>g (upd f b v i):=by
 apply List.ext_getElem?;intro j
 rw [List.getElem?_set]
 by_cases e:b=j
 ·subst e
  rw [if_pos rfl]
  by_cases h:b<m
  ·simp [h,upd_same]
  ·simp [h]
 ·rw [if_neg e]
  by_cases h:j<m
  ·simp [h,upd_ne (fun e'=>e e'.symm)]
  ·simp [h]
theorem bls_set {m b:Nat} {f:Nat→Bool} {v:Bool}:(bls m f).set b [.bl v]=bls m (upd f b v):=map_upd (g:=fun x=>[SV.bl x])
theorem ivs_set {m b:Nat} {f:Nat→Int} {v:Int}:(ivs m f).set b [i64 v]=ivs m (upd f b v):=map_upd (g:=fun x=>[i64 x])
theorem bls_rep (m:Nat) (v:Bool):List.replicate m [SV.bl v]=bls m fun _=>v:=by
 apply List.ext_getElem?;intro j
 by_cases h:j<m<;>simp [bls,h]
theorem ivs_rep (m:Nat) (v:Int):List.replicate m [i64 v]=ivs m fun _=>v:=by
 apply List.ext_getElem?;intro j
 by_cases h:j<m<;>simp [ivs,h]
def oI:Option Nat→Int
 |none=> -1
 |some i=>i
structure PL (p:List Pk):Prop where
 l:p.length≤60
 a:Asc p
 s:∀i,i<p.length→1≤(p.getD i pk0).s ∧(p.getD i pk0).s ≤1500
 t:∀i,i<p.length→0≤(p.getD i pk0).t ∧(p.getD i pk0).t ≤2000
end
end Go.Proofs.YtaomhdljcdadaaaGreat
