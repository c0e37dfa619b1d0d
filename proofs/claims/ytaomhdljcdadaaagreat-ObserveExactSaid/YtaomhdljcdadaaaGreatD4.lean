/- Lemmas of this seat. Conditions: as stated. -/
import Derived.Test.YtaomhdljcdadaaaGreatO14
import Derived.Test.YtaomhdljcdadaaaGreatPl
set_option linter.unusedVariables false
set_option linter.unusedSimpArgs false
set_option maxHeartbeats 2000000
set_option maxRecDepth 8000
namespace Go.Proofs.YtaomhdljcdadaaaGreat
section
open Go.Sx Go.Pk Go.Cv Go.St
def VioU (A F:Nat→Int) (N:Nat) (x:Int×Int×Bool):Prop:=
 (∃s t:Nat,(s<t∧t≤N∧F (t-s)<A t-A s)∧(∀t',t'<t→∀s',s'<t'→A t'-A s'≤F (t'-s'))∧(∀s',s<s'→s'<t→A t-A s'≤F (t-s'))∧x=((s:Int),(t:Int),true))∨(Kp A F N∧x=(0,0,false))
theorem VioU.uniq {A F:Nat→Int} {N:Nat} {x y:Int×Int×Bool} (hx:VioU A F N x) (hy:VioU A F N y):x=y:=by
 rcases hx with⟨s,t,⟨h1,h2,h3⟩,h4,h5,rfl⟩|⟨h1,rfl⟩
 ·rcases hy with⟨s',t',⟨k1,k2,k3⟩,k4,k5,rfl⟩|⟨k1,rfl⟩
  ·have e:t=t':=by
    apply Classical.byContradiction
    intro hn
    obtain h|h:t<t'∨t'<t:=by omega
    ·have:=k4 t h s h1;omega
    ·have:=h4 t' h s' k1;omega
   subst e
   have e:s=s':=by
    apply Classical.byContradiction
    intro hn
    obtain h|h:s<s'∨s'<s:=by omega
    ·have:=h5 s' h k1;omega
    ·have:=k5 s h h1;omega
   subst e;rfl
  ·exfalso;have:=k1 s t h1 h2;omega
 ·rcases hy with⟨s',t',⟨k1,k2,k3⟩,k4,k5,rfl⟩|⟨k1,rfl⟩
  ·exfalso;have:=h1 s' t' k1 k2;omega
  ·rfl
theorem z1_D4 {G H:Prop} (k:H) (h:H→G:=by first|exact fun r=>aS r|exact fun r=>aG r|exact fun r=>aD r|exact fun r=>aH r|exact fun r=>aP_C1 r|exact fun r=>aI r|exact fun r=>aJ r|exact fun r=>aW (.qs [0,1,2,3,4,5,6,7,8,9] .nil) r|exact fun r=>aW (.qs [0,1,2,3,4,5,6,7,8,9,10,11,12] (.l 13 [7,3] (.qs [14] .nil) .no)) r):G:=h k
theorem rfind_ok (p:List Pk) (hv:Vld p) (flow:Int) (hf: -1≤flow) (f:C3) (vf:VC f):Ctr Tryz.prog 179 [.psl 3 (pks p),i64 flow,crv f.1 f.2.1 f.2.2] [] (fun r o=>∃x:Int×Int×Bool,VioU (csm p flow) (cv f) (endN p) x∧o=[]∧r= .tup [i64 x.1,i64 x.2.1, .bl x.2.2]):=by
 refine Ctr.impE ?_
 refine fI 0 Tryz.func179 ?_
 have hN:=endN_le hv
 have hA:=fun t=>csm_bd hv flow t
 have cS:=rsums14_ok p hv flow hf
 have hF0:∀t,0≤cv f t:=fun t=>cv_nonneg vf t
 have hFm:∀{s t:Nat},s≤t→cv f s≤cv f t:=fun h=>vf.cvle h
 have cA:=fun(t:Nat) (h:t≤3000)=>rAt_ok f t vf (by omega)
 generalize csm p flow=A at*
 generalize endN p=N at*
 generalize hF:cv f=F at*
 have hal:(ints (vals A (N+1))).length =N+1:=by rw [ints_len,vals_len]
 have hAg:=fun t (h:t<N+1)=>vint (F:=A) h
 have hFb:∀t,t≤N→F t≤6000000000000000000:=fun t ht=>by rw [←hF];exact(vc_bd vf (by omega)).2
 generalize ints (vals A (N+1))=VA at*
 (repeat' (conv=>whnf);first|refine aC ?_ ?_<;>intro<;>try omega|refine z1_D4 ?_|(refine aK [] cS ?_)|fail);all_goals try (conv=>whnf)
 refine LoopOb.mk (Y:=Nat) (st:=fun t=>⟨[(10,i64 t),(9, .psl 1 VA),(5, .ptr 0 0),(6,i64 0),(7,i64 0),(8, .bl false)],[.box [.psl 1 (ints f.1),i64 f.2.1,i64 f.2.2]]⟩)
  (inv:=fun t=>(1≤t∧t≤N+1)∧∀t',t'<t→∀s,s<t'→A t'-A s≤F (t'-s)) (fun t=>N+1-t) 1 [0] ⟨by omega,fun t' h s hs=>by omega⟩ (by(exact aL)) ?_
 rintro t ⟨⟨ht1,ht⟩,hi⟩
 have hb1:=hA t
 have hb2:=hA (t-1)
 (repeat' (conv=>whnf);first|refine z1_D4 ?_|fail);all_goals try (conv=>whnf)
 refine CondOb.mk (fun hlt=>?_) (fun hlt=>?_)
 ·have htN:t≤N:=by omega
  have g1:=hAg t (by omega)
  have g2:=hAg (t-1) (by omega)
  have hskip:A t=A (t-1)→∀t',t'<t+1→∀s,s<t'→A t'-A s≤F (t'-s):=fun he t' h s hs=>by
   by_cases e:t'=t
   ·subst e
    by_cases e2:s=t'-1
    ·have:=hF0 (t'-s);rw [←e2]at he;omega
    ·have h1:=hi (t'-1) (by omega) s (by omega)
     have h2:=hFm (s:=t'-1-s) (t:=t'-s) (by omega)
     omega
   ·exact hi t' (by omega) s hs
  (repeat' (conv=>whnf);first|refine⟨t-1,_,by omega,g2,?_⟩|refine⟨t,_,rfl,g1,?_⟩|refine aC ?_ ?_<;>intro<;>try omega|refine z1_D4 ?_|fail);all_goals try (conv=>whnf)
  ·exact⟨t+1,[0],⟨by omega,hskip (by assumption)⟩,by omega,by(exact aL)⟩
  ·refine LoopOb.mk (Y:=Nat) (st:=fun m=>⟨[(11,i64 ((t:Int)-1-m)),(10,i64 t),(9, .psl 1 VA),(5, .ptr 0 0),(6,i64 0),(7,i64 0),(8, .bl false)],[.box [.psl 1 (ints f.1),i64 f.2.1,i64 f.2.2]]⟩)
    (inv:=fun m=>m≤t∧∀s,s<t→t-1-m<s∨m=t→A t-A s≤F (t-s)) (fun m=>t-m) 0 [0] ⟨by omega,fun s hs h=>by omega⟩ (by(exact aL)) ?_
   rintro m ⟨hm,hmi⟩
   (repeat' (conv=>whnf);first|refine z1_D4 ?_|fail);all_goals try (conv=>whnf)
   refine CondOb.mk (fun hl2=>?_) (fun hl2=>?_)
   ·obtain⟨s,hs⟩:∃s:Nat,(t:Int)-1-m=s:=⟨t-1-m,by omega⟩
    have g3:=hAg s (by omega)
    have cB:=cA (t-s) (by omega)
    have hb3:=hA s
    have hb4:=hF0 (t-s)
    have hb5:=hFb (t-s) (by omega)
    have hm2:¬F (t-s)<A t-A s→∀s',s'<t→t-1-(m+1)<s'∨m+1=t→A t-A s'≤F (t-s'):=fun hn s' h1 h2=>by
     by_cases e:s'=s
     ·subst e;omega
     ·exact hmi s' h1 (by omega)
    (repeat' (conv=>whnf);first|refine⟨s,_,by omega,g3,?_⟩|refine⟨t,_,rfl,g1,?_⟩|refine aC ?_ ?_<;>intro<;>try omega|refine z1_D4 ?_|(refine CallOb.mk [] cB rfl ⟨Imp.refl _,Imp.num (by omega),trivial⟩ rfl rfl ?_;rintro _ _ ⟨rfl,rfl⟩)|fail);all_goals try (conv=>whnf)
    ·exact⟨((s:Int),(t:Int),true), .inl ⟨s,t,⟨by omega,by omega,by assumption⟩,hi,fun s' h1 h2=>hmi s' h2 (by omega),rfl⟩,rfl,Imp.tup ⟨Imp.num (by omega),Imp.refl _,Imp.refl _,trivial⟩⟩
    ·exact⟨m+1,[0],⟨by omega,hm2 (by assumption)⟩,by omega,by(exact aL)⟩
   ·have e:m=t:=by omega
    (repeat' (conv=>whnf);first|refine aC ?_ ?_<;>intro<;>try omega|refine z1_D4 ?_|fail);all_goals try (conv=>whnf)
    exact⟨t+1,[0],⟨by omega,fun t' h s hs=>by
     by_cases e2:t'=t
     ·subst e2;exact hmi s hs (by omega)
     ·exact hi t' (by omega) s hs⟩,by omega,by(exact aL)⟩
 ·have e:t=N+1:=by omega
  subst e
  (repeat' (conv=>whnf);first|refine aC ?_ ?_<;>intro<;>try omega|refine z1_D4 ?_|fail);all_goals try (conv=>whnf)
  exact⟨(0,0,false), .inr ⟨fun s t h1 h2=>hi t (by omega) s h1,rfl⟩,rfl,Imp.refl _⟩
end
section
open Go.Sx Go.Pk Go.Cv Go.St
theorem cVioU_ok (p:List Pk) (hv:Vld p) (flow:Int) (hf: -1≤flow) (f:C3) (vf:VC f):Ctr Tryz.prog 99 [.psl 3 (pks p),i64 flow,crv f.1 f.2.1 f.2.2] [] (fun r o=>∃x:Int×Int×Bool,VioU (csm p flow) (cv f) (endN p) x∧o=[]∧r= .tup [i64 x.1,i64 x.2.1, .bl x.2.2,i64 0]):=by
 refine Ctr.impE ?_
 refine fI 0 Tryz.func99 ?_
 have hN:=endN_le hv
 have hC:=csm_cum hv flow
 have hA:=fun t=>csm_bd hv flow t
 have cS:=sums_ok p hv flow
 have cT:=Table_ok f vf (endN p+1) (by omega)
 have hF0:∀t,0≤cv f t:=fun t=>cv_nonneg vf t
 have hFm:∀{s t:Nat},s≤t→cv f s≤cv f t:=fun h=>vf.cvle h
 generalize csm p flow=A at*
 generalize endN p=N at*
 generalize hF:cv f=F at*
 have hal:(ints (vals A (N+1))).length =N+1:=by rw [ints_len,vals_len]
 have hwl:(ints (vals F (N+1))).length =N+1:=by rw [ints_len,vals_len]
 have hAg:=fun t (h:t<N+1)=>vint (F:=A) h
 have hFg:=fun t (h:t<N+1)=>vint (F:=F) h
 have hFb:∀t,t≤N→F t≤6000000000000000000:=fun t ht=>by rw [←hF];exact(vc_bd vf (by omega)).2
 generalize ints (vals A (N+1))=VA at*
 generalize ints (vals F (N+1))=VF at*
 (repeat' (conv=>whnf);first|refine aC ?_ ?_<;>intro<;>try omega|refine z1_C2 ?_|(refine aK [] (cCheck_ok p hv flow hf f vf) ?_)|(refine aK [] cS ?_)|(refine CallOb.mk [] cT rfl ⟨Imp.refl _,Imp.num (by omega),trivial⟩ rfl rfl ?_;rintro _ _ ⟨rfl,rfl⟩)|fail);all_goals try (conv=>whnf)
 refine LoopOb.mk (Y:=Nat) (st:=fun t=>⟨[(13,i64 t),(12, .psl 1 VF),(11, .psl 1 VA)],[]⟩)
  (inv:=fun t=>(1≤t∧t≤N+1)∧∀t',t'<t→∀s,s<t'→A t'-A s≤F (t'-s)) (fun t=>N+1-t) 1 [] ⟨by omega,fun t' h s hs=>by omega⟩ (by(exact aL)) ?_
 rintro t ⟨⟨ht1,ht⟩,hi⟩
 have hb1:=hA t
 have hb2:=hA (t-1)
 (repeat' (conv=>whnf);first|refine z1_C2 ?_|fail);all_goals try (conv=>whnf)
 refine CondOb.mk (fun hlt=>?_) (fun hlt=>?_)
 ·have htN:t≤N:=by omega
  have g1:=hAg t (by omega)
  have g2:=hAg (t-1) (by omega)
  have hskip:A t=A (t-1)→∀t',t'<t+1→∀s,s<t'→A t'-A s≤F (t'-s):=fun he t' h s hs=>by
   by_cases e:t'=t
   ·subst e
    by_cases e2:s=t'-1
    ·have:=hF0 (t'-s);rw [←e2]at he;omega
    ·have h1:=hi (t'-1) (by omega) s (by omega)
     have h2:=hFm (s:=t'-1-s) (t:=t'-s) (by omega)
     omega
   ·exact hi t' (by omega) s hs
  (repeat' (conv=>whnf);first|refine⟨t-1,_,by omega,g2,?_⟩|refine⟨t,_,rfl,g1,?_⟩|refine aC ?_ ?_<;>intro<;>try omega|refine z1_C2 ?_|fail);all_goals try (conv=>whnf)
  ·exact⟨t+1,[],⟨by omega,hskip (by assumption)⟩,by omega,by(exact aL)⟩
  ·refine LoopOb.mk (Y:=Nat) (st:=fun m=>⟨[(14,i64 ((t:Int)-1-m)),(13,i64 t),(12, .psl 1 VF),(11, .psl 1 VA)],[]⟩)
    (inv:=fun m=>m≤t∧∀s,s<t→t-1-m<s∨m=t→A t-A s≤F (t-s)) (fun m=>t-m) 0 [] ⟨by omega,fun s hs h=>by omega⟩ (by(exact aL)) ?_
   rintro m ⟨hm,hmi⟩
   (repeat' (conv=>whnf);first|refine z1_C2 ?_|fail);all_goals try (conv=>whnf)
   refine CondOb.mk (fun hl2=>?_) (fun hl2=>?_)
   ·obtain⟨s,hs⟩:∃s:Nat,(t:Int)-1-m=s:=⟨t-1-m,by omega⟩
    have g3:=hAg s (by omega)
    have g4:=hFg (t-s) (by omega)
    have hb3:=hA s
    have hb4:=hF0 (t-s)
    have hb5:=hFb (t-s) (by omega)
    have hm2:¬F (t-s)<A t-A s→∀s',s'<t→t-1-(m+1)<s'∨m+1=t→A t-A s'≤F (t-s'):=fun hn s' h1 h2=>by
     by_cases e:s'=s
     ·subst e;omega
     ·exact hmi s' h1 (by omega)
    (repeat' (conv=>whnf);first|refine⟨t-s,_,by omega,g4,?_⟩|refine⟨s,_,by omega,g3,?_⟩|refine⟨t,_,rfl,g1,?_⟩|refine aC ?_ ?_<;>intro<;>try omega|refine z1_C2 ?_|fail);all_goals try (conv=>whnf)
    ·exact⟨((s:Int),(t:Int),true), .inl ⟨s,t,⟨by omega,by omega,by assumption⟩,hi,fun s' h1 h2=>hmi s' h2 (by omega),rfl⟩,rfl,Imp.tup ⟨Imp.num (by omega),Imp.refl _,Imp.refl _,Imp.refl _,trivial⟩⟩
    ·exact⟨m+1,[],⟨by omega,hm2 (by assumption)⟩,by omega,by(exact aL)⟩
   ·have e:m=t:=by omega
    (repeat' (conv=>whnf);first|refine aC ?_ ?_<;>intro<;>try omega|refine z1_C2 ?_|fail);all_goals try (conv=>whnf)
    exact⟨t+1,[],⟨by omega,fun t' h s hs=>by
     by_cases e2:t'=t
     ·subst e2;exact hmi s hs (by omega)
     ·exact hi t' (by omega) s hs⟩,by omega,by(exact aL)⟩
 ·have e:t=N+1:=by omega
  subst e
  (repeat' (conv=>whnf);first|refine aC ?_ ?_<;>intro<;>try omega|refine z1_C2 ?_|fail);all_goals try (conv=>whnf)
  exact⟨(0,0,false), .inr ⟨fun s t h1 h2=>hi t (by omega) s h1,rfl⟩,rfl,Imp.refl _⟩
def VioG (p:List Pk) (flow:Int) (vs:List Int) (q i:Int) (x:(Int×Int×Bool)×Int):Prop:=
 ChkR p flow (ValidP vs q i) x.2∧(x.2≠0→x.1=(0,0,false))∧(x.2=0→∀q':Nat,q=q'→VioU (csm p flow) (cv (vs,q',i)) (endN p) x.1)
theorem VioG.uniq {p:List Pk} {flow:Int} {vs:List Int} {q i:Int} {x y:(Int×Int×Bool)×Int} (hx:VioG p flow vs q i x) (hy:VioG p flow vs q i y):x=y:=by
 obtain⟨x1,x2⟩:=x
 obtain⟨y1,y2⟩:=y
 obtain⟨h1,h2,h3⟩:=hx
 obtain⟨k1,k2,k3⟩:=hy
 have e:x2=y2:=h1.uniq k1
 subst e
 by_cases h:x2=0
 ·subst h
  cases h1 with
  |vld h he=>exact absurd he (by dsimp only;omega)
  |flow h hf he=>cases he
  |curve h hf hv he=>cases he
  |ok h hf hv he=>
   obtain⟨q',rfl,_⟩:=hv.vf
   have e3:x1=y1:=(h3 rfl q' rfl).uniq (k3 rfl q' rfl)
   rw [e3]
 ·have e1:=h2 h
  have e2:=k2 h
  dsimp only at e1 e2
  rw [e1,e2]
theorem chk_ok {p:List Pk} {flow:Int} {V:Prop} (h:ChkR p flow V 0):Vld p∧-1≤flow∧V:=by
 cases h with
 |vld h he=>exact absurd he.symm h
 |flow h hf he=>cases he
 |curve h hf hv he=>cases he
 |ok h hf hv he=>exact⟨vld_zero.1 h,hf,hv⟩
theorem rVioG_ok (p:List Pk) (hp:p.length≤1000000) (flow:Int) (vs:List Int) (q i:Int) (hv:vs.length≤1000000):
  Ctr Tryz.prog 131 [.psl 3 (pks p),i64 flow,crv vs q i] [] (fun r o=>∃x:(Int×Int×Bool)×Int,VioG p flow vs q i x∧o=[]∧r= .tup [i64 x.1.1,i64 x.1.2.1, .bl x.1.2.2,i64 x.2]):=by
 refine Ctr.impE ?_
 refine fI 0 Tryz.func131 ?_
 have cB:=rbadG_ok p hp flow vs q i hv
 (repeat' (conv=>whnf);first|refine aC ?_ ?_<;>intro<;>try omega|refine z1_C1 ?_|fail);all_goals try (conv=>whnf)
 refine aM [] cB rfl rfl ?_
 rintro _ _ ⟨e,he,rfl,rfl⟩
 by_cases h0:e=0
 ·subst h0
  obtain⟨hV,hf,hq⟩:=chk_ok he
  obtain⟨q',rfl,vf⟩:=hq.vf
  have cF:=rfind_ok p hV flow hf (vs,q',i) vf
  (repeat' (conv=>whnf);first|refine aC ?_ ?_<;>intro<;>try omega|refine z1_C1 ?_|fail);all_goals try (conv=>whnf)
  refine aM [] cF rfl rfl ?_
  rintro _ _ ⟨⟨x1,x2,x3⟩,hx,rfl,rfl⟩
  dsimp only
  (repeat' (conv=>whnf);first|refine aC ?_ ?_<;>intro<;>try omega|refine z1_C1 ?_|fail);all_goals try (conv=>whnf)
  have hg:VioG p flow vs q' i ((x1,x2,x3),0):=⟨he,fun h=>absurd rfl h,fun _ q2 h=>by
   have:q2=q':=by omega
   subst this
   exact hx⟩
  exact⟨((x1,x2,x3),0),hg,rfl,Imp.refl _⟩
 ·(repeat' (conv=>whnf);first|refine aC ?_ ?_<;>intro<;>try omega|refine z1_C1 ?_|fail);all_goals try (conv=>whnf)
  exact⟨((0,0,false),e),⟨he,fun _=>rfl,fun h=>absurd h h0⟩,rfl,Imp.refl _⟩
theorem cVioG_ok (p:List Pk) (hp:p.length≤1000000) (flow:Int) (vs:List Int) (q i:Int) (hv:vs.length≤1000000):
  Ctr Tryz.prog 99 [.psl 3 (pks p),i64 flow,crv vs q i] [] (fun r o=>∃x:(Int×Int×Bool)×Int,VioG p flow vs q i x∧o=[]∧r= .tup [i64 x.1.1,i64 x.1.2.1, .bl x.1.2.2,i64 x.2]):=by
 by_cases hall:Vld p∧-1≤flow∧ValidP vs q i
 ·obtain⟨hV,hf,hq⟩:=hall
  obtain⟨q',rfl,vf⟩:=id hq.vf
  exact(cVioU_ok p hV flow hf (vs,q',i) vf).mono fun r o ⟨x,h1,h2,h3⟩=>⟨(x,0),⟨.ok (vld_zero.2 hV) hf hq rfl,fun h=>absurd rfl h,fun _ q2 h=>by
   have:q2=q':=by omega
   subst this;exact h1⟩,h2,h3⟩
 ·refine Ctr.impE ?_
  refine fI 0 Tryz.func99 ?_
  have cB:=checkG_ok p hp flow vs q i hv
  (repeat' (conv=>whnf);first|refine aC ?_ ?_<;>intro<;>try omega|refine z1_C2 ?_|fail);all_goals try (conv=>whnf)
  refine aM [] cB rfl rfl ?_
  rintro _ _ ⟨e,he,rfl,rfl⟩
  have h0:e≠0:=fun h=>by subst h;exact hall (chk_ok he)
  (repeat' (conv=>whnf);first|refine aC ?_ ?_<;>intro<;>try omega|refine z1_C2 ?_|fail);all_goals try (conv=>whnf)
  exact⟨((0,0,false),e),⟨he,fun _=>rfl,fun h=>absurd h h0⟩,rfl,Imp.refl _⟩
end
section
open Go.Sx Go.Pk Go.Cv Go.St
theorem rKeepsG_ok (p:List Pk) (hp:p.length≤1000000) (flow:Int) (vs:List Int) (q i:Int) (hv:vs.length≤1000000):
  Ctr Tryz.prog 100 [.psl 3 (pks p),i64 flow,crv vs q i] [] (fun r o=>∃x:(Int×Int×Bool)×Int,VioG p flow vs q i x∧o=[]∧r= .bp (x.2=0∧x.1.2.2=false)):=by
 refine Ctr.impE (Q:=fun x=>VioG p flow vs q i x) (s:=fun x=> .bp (x.2=0∧x.1.2.2=false)) (ow:=fun _=>[]) ?_
 refine fI 0 Tryz.func100 ?_
 have cV:=rVioG_ok p hp flow vs q i hv
 (repeat' (conv=>whnf);first|refine aC ?_ ?_<;>intro<;>try omega|refine z1_C1 ?_|fail);all_goals try (conv=>whnf)
 refine aM [] cV rfl rfl ?_
 rintro _ _ ⟨⟨⟨x1,x2,x3⟩,x4⟩,hx,rfl,rfl⟩
 cases x3
 ·dsimp only
  (repeat' (conv=>whnf);first|refine aC ?_ ?_<;>intro<;>try omega|refine z1_C1 ?_|fail);all_goals try (conv=>whnf)
  all_goals first
   |exact⟨((x1,x2,false),x4),hx,rfl,Imp.bl ⟨fun _=>⟨by assumption,rfl⟩,fun _=>rfl⟩⟩
   |exact⟨((x1,x2,false),x4),hx,rfl,Imp.bl ⟨fun h=>(by cases h),fun h=>absurd h.1 (by assumption)⟩⟩
   |exact⟨((x1,x2,false),x4),hx,rfl,Imp.bl ⟨fun h=>(by cases h),fun h=>(by have h2:=h.2;cases h2)⟩⟩
   |trace_state
 ·dsimp only
  (repeat' (conv=>whnf);first|refine aC ?_ ?_<;>intro<;>try omega|refine z1_C1 ?_|fail);all_goals try (conv=>whnf)
  all_goals first
   |exact⟨((x1,x2,true),x4),hx,rfl,Imp.bl ⟨fun _=>⟨by assumption,rfl⟩,fun _=>rfl⟩⟩
   |exact⟨((x1,x2,true),x4),hx,rfl,Imp.bl ⟨fun h=>(by cases h),fun h=>absurd h.1 (by assumption)⟩⟩
   |exact⟨((x1,x2,true),x4),hx,rfl,Imp.bl ⟨fun h=>(by cases h),fun h=>(by have h2:=h.2;cases h2)⟩⟩
   |trace_state
theorem cKeepsG_ok (p:List Pk) (hp:p.length≤1000000) (flow:Int) (vs:List Int) (q i:Int) (hv:vs.length≤1000000):
  Ctr Tryz.prog 69 [.psl 3 (pks p),i64 flow,crv vs q i] [] (fun r o=>∃x:(Int×Int×Bool)×Int,VioG p flow vs q i x∧o=[]∧r= .bp (x.2=0∧x.1.2.2=false)):=by
 refine Ctr.impE (Q:=fun x=>VioG p flow vs q i x) (s:=fun x=> .bp (x.2=0∧x.1.2.2=false)) (ow:=fun _=>[]) ?_
 refine fI 0 Tryz.func69 ?_
 have cV:=cVioG_ok p hp flow vs q i hv
 (repeat' (conv=>whnf);first|refine aC ?_ ?_<;>intro<;>try omega|refine z1_C1 ?_|fail);all_goals try (conv=>whnf)
 refine aM [] cV rfl rfl ?_
 rintro _ _ ⟨⟨⟨x1,x2,x3⟩,x4⟩,hx,rfl,rfl⟩
 cases x3
 ·dsimp only
  (repeat' (conv=>whnf);first|refine aC ?_ ?_<;>intro<;>try omega|refine z1_C1 ?_|fail);all_goals try (conv=>whnf)
  all_goals first
   |exact⟨((x1,x2,false),x4),hx,rfl,Imp.bl ⟨fun _=>⟨by assumption,rfl⟩,fun _=>rfl⟩⟩
   |exact⟨((x1,x2,false),x4),hx,rfl,Imp.bl ⟨fun h=>(by cases h),fun h=>absurd h.1 (by assumption)⟩⟩
   |exact⟨((x1,x2,false),x4),hx,rfl,Imp.bl ⟨fun h=>(by cases h),fun h=>(by have h2:=h.2;cases h2)⟩⟩
   |trace_state
 ·dsimp only
  (repeat' (conv=>whnf);first|refine aC ?_ ?_<;>intro<;>try omega|refine z1_C1 ?_|fail);all_goals try (conv=>whnf)
  all_goals first
   |exact⟨((x1,x2,true),x4),hx,rfl,Imp.bl ⟨fun _=>⟨by assumption,rfl⟩,fun _=>rfl⟩⟩
   |exact⟨((x1,x2,true),x4),hx,rfl,Imp.bl ⟨fun h=>(by cases h),fun h=>absurd h.1 (by assumption)⟩⟩
   |exact⟨((x1,x2,true),x4),hx,rfl,Imp.bl ⟨fun h=>(by cases h),fun h=>(by have h2:=h.2;cases h2)⟩⟩
   |trace_state
end
end Go.Proofs.YtaomhdljcdadaaaGreat
section
namespace Go.Pk
open Go.Cv Go.St
def ownF (p:List Pk) (f:Int):List Pk:=(p.filter fun x=>decide (x.f=f)).map fun x=>⟨0,x.t,x.s⟩
theorem ownF_take {p:List Pk} {f:Int} {i:Nat} (h:i<p.length):ownF (p.take (i+1)) f=if(p.getD i pk0).f =f then ownF (p.take i) f++[⟨0,(p.getD i pk0).t,(p.getD i pk0).s⟩]else ownF (p.take i) f:=by
 have e:p.getD i pk0=p[i]:=by rw [List.getD_eq_getElem?_getD,List.getElem?_eq_getElem h];rfl
 unfold ownF
 rw [List.take_succ_eq_append_getElem h,List.filter_append,List.map_append,e]
 by_cases c:p[i].f =f
 ·rw [if_pos c,List.filter_cons_of_pos (by simpa using c)];rfl
 ·rw [if_neg c,List.filter_cons_of_neg (by simpa using c)];simp
theorem ownF_len {p:List Pk} {f:Int}:(ownF p f).length ≤p.length:=by unfold ownF;rw [List.length_map];exact List.length_filter_le _ _
def sbT (t:Int):List Pk→Int
 |[]=>0
 |x::l=>(if x.t<t then x.s else 0)+sbT t l
theorem sbT_app (t:Int):∀a b,sbT t (a++b)=sbT t a+sbT t b
 |[],b=>by simp [sbT]
 |x::a,b=>by simp only [List.cons_append,sbT,sbT_app t a b];omega
theorem bysL_sel (p:List Pk) (f t:Int):∀i,i≤p.length→bysL t (selN p f i)=sbT t ((p.take i).filter fun x=>decide (sel f x))
 |0,_=>rfl
 |i+1,hi=>by
  have ih:=bysL_sel p f t i (by omega)
  have hil:i<p.length:=by omega
  have e:p.getD i pk0=p[i]:=by rw [List.getD_eq_getElem?_getD,List.getElem?_eq_getElem hil];rfl
  rw [List.take_succ_eq_append_getElem hil,List.filter_append,sbT_app,←ih]
  simp only [selN]
  rw [e]
  by_cases c:sel f p[i]
  ·rw [if_pos c,bysL_app,List.filter_cons_of_pos (by simpa using c)];rfl
  ·rw [if_neg c,List.filter_cons_of_neg (by simpa using c)];simp [sbT]
theorem sbT_map (t:Int):∀l:List Pk,sbT t (l.map fun x=>(⟨0,x.t,x.s⟩:Pk))=sbT t l
 |[]=>rfl
 |x::l=>by simp only [List.map_cons,sbT,sbT_map t l]
theorem own_bys {p:List Pk} {f:Int} (hf:0≤f) (t:Int):bys (ownF p f) 0 t=bys p f t:=by
 unfold bys
 rw [bysL_sel _ _ _ _ (Nat.le_refl _),bysL_sel _ _ _ _ (Nat.le_refl _),List.take_length,List.take_length]
 have e1:(ownF p f).filter (fun x=>decide (sel 0 x))=ownF p f:=by
  refine List.filter_eq_self.2 fun x hx=>?_
  unfold ownF at hx
  obtain⟨y,_,rfl⟩:=List.mem_map.1 hx
  simp [sel]
 have e2:(p.filter fun x=>decide (sel f x))=p.filter fun x=>decide (x.f=f):=by
  refine List.filter_congr fun x _=>?_
  rw [decide_eq_decide];unfold sel;omega
 rw [e1,e2]
 unfold ownF
 exact sbT_map t _
theorem own_vld {p:List Pk} (hv:Vld p) (f:Int):Vld (ownF p f):=by
 have hs:p.Pairwise fun x y=>x.t≤y.t:=by
  refine List.pairwise_iff_getElem.2 fun i j hi hj hij=>?_
  have key:∀d i,i+d<p.length→(p.getD i pk0).t ≤(p.getD (i+d) pk0).t :=fun d=>by
   induction d with
   |zero=>intro i _;exact Int.le_refl _
   |succ d ih=>
    intro i h
    have h1:=ih i (by omega)
    have h2:=hv.o (i+(d+1)) h
    rw [show i+(d+1)=(i+d)+1 by omega]at h2⊢
    simp only [Go.Pk.lst]at h2
    omega
  have h:=key (j-i) i (by omega)
  rw [show i+(j-i)=j by omega]at h
  rw [List.getD_eq_getElem?_getD,List.getD_eq_getElem?_getD,List.getElem?_eq_getElem hi,List.getElem?_eq_getElem hj]at h
  exact h
 have hl:=ownF_len (p:=p) (f:=f)
 have h60:=hv.l
 have hm:∀x∈ownF p f,¬bad x:=fun x hx=>by
  unfold ownF at hx
  obtain⟨y,hy,rfl⟩:=List.mem_map.1 hx
  have:=hv.mem y (List.mem_filter.1 hy).1
  unfold bad at this⊢
  dsimp only;omega
 have hs2:(ownF p f).Pairwise fun x y=>x.t≤y.t:=by
  unfold ownF
  refine List.pairwise_map.2 ?_
  exact(hs.sublist List.filter_sublist).imp fun h=>h
 refine⟨by omega,fun i hi=>hm _ (getD_memP hi),fun i hi=>?_⟩
 cases i with
 |zero=>have:=hm _ (getD_memP hi);unfold bad at this;simp only [Go.Pk.lst];omega
 |succ i=>
  have h:=List.pairwise_iff_getElem.1 hs2 i (i+1) (by omega) hi (by omega)
  simp only [Go.Pk.lst]
  rw [List.getD_eq_getElem?_getD,List.getD_eq_getElem?_getD,List.getElem?_eq_getElem (by omega),List.getElem?_eq_getElem hi]
  exact h
theorem own_kp {p:List Pk} (hv:Vld p) {f:Int} (hf:0≤f) {F:Nat→Int} (hF:∀t,0≤F t) (hm:∀{s t:Nat},s≤t→F s≤F t):Kp (csm (ownF p f) 0) F (endN (ownF p f))↔Kp (csm p f) F (endN p):=by
 have e:csm (ownF p f) 0=csm p f:=funext fun t=>own_bys hf t
 have h1:=csm_cum (own_vld hv f) 0
 have h2:=csm_cum hv f
 rw [e]at h1⊢
 exact⟨fun h s t hst _=>h.all h1 hF hm s t hst,fun h s t hst _=>h.all h2 hF hm s t hst⟩
end Go.Pk
end
