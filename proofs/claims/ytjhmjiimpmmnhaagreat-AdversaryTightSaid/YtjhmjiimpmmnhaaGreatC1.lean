/- Lemmas of this seat. Conditions: as stated. -/
import Derived.Test.YtjhmjiimpmmnhaaGreatT1
import Derived.Test.YtjhmjiimpmmnhaaGreatPl
import Derived.Test.YtjhmjiimpmmnhaaGreatR6
import Derived.Test.YtjhmjiimpmmnhaaGreatS6
import Derived.Test.YtjhmjiimpmmnhaaGreatJ7
set_option linter.unusedVariables false
set_option linter.unusedSimpArgs false
set_option maxHeartbeats 2000000
set_option maxRecDepth 8000
namespace Go.Proofs.YtjhmjiimpmmnhaaGreat
section
open Go.Sx Go.Pk Go.Cv Go.St
theorem aP_C1 {A B K:Prop} (k:K) (a:A:=by(simp only [zA,zT,zD,zC,zN,ints_len,zR,pks_len,Go.Cv.vals_len];omega)) (b:B:=by(simp only [zA,zT,zD,zC,zN,ints_len,zR,pks_len,Go.Cv.vals_len];omega)):(A∧B)∧K:=⟨⟨a,b⟩,k⟩
theorem z1_C1 {G H:Prop} (k:H) (h:H→G:=by first|exact fun r=>aS r|exact fun r=>aG r|exact fun r=>aD r|exact fun r=>aH r|exact fun r=>aP_C1 r|exact fun r=>aI r|exact fun r=>aJ r):G:=h k
theorem end_ok (p : List Pk) (hv : Vld p) : Ctr Tryz.prog 173 [.psl 3 (pks p)] [] (fun r o => o = [] ∧ r = i64 (endN p)) := by
  refine fI 0 Tryz.func173 ?_
  have hpl := pks_len p
  have hp := hv.l
  have hb : ∀ h : 0 < p.length, ¬bad (p.getD (p.length - 1) pk0) := fun h => hv.g _ (by omega)
  have hg : ∀ h : 0 < p.length, (pks p)[p.length - 1]? = some (pkw (p.getD (p.length - 1) pk0)) := fun h => pks_get (by omega)
  have e0 : p.length = 0 → endN p = 0 := fun h => by unfold endN; rw [h]
  have e1 : 0 < p.length → endN p = ((p.getD (p.length - 1) pk0).t + 1).toNat := fun h => by
    obtain ⟨n, hn⟩ : ∃ n, p.length = n + 1 := ⟨p.length - 1, by omega⟩
    unfold endN; rw [hn]; rfl
  unfold bad at hb
  generalize p.getD (p.length - 1) pk0 = x at *
  (repeat' (conv => whnf); first | refine ⟨p.length - 1, _, by omega, hg (by omega), ?_⟩ | refine aC ?_ ?_ <;> intro <;> try omega | refine z1_C1 ?_ | fail); all_goals try (conv => whnf)
  all_goals first
    | exact ⟨rfl, by rw [e0 (by omega)]; rfl⟩
    | (have h1 := e1 (by omega)
       have h2 := hb (by omega)
       exact ⟨rfl, by rw [h1, Int.toNat_of_nonneg (by omega)]; rfl⟩)
    | trace_state
theorem z2_C1 {G H:Prop} (k:H) (h:H→G:=by first|exact fun r=>aS r|exact fun r=>aG r|exact fun r=>aD r|exact fun r=>aP_C1 r|exact fun r=>aI r|exact fun r=>aJ r):G:=h k
theorem Table_ok (f:C3) (hf:VC f) (n:Nat) (hn:n≤100000):Ctr Tryz.prog 136 [crv f.1 f.2.1 f.2.2,i64 n] [] (fun r o=>o=[]∧r= .psl 1 (ints (vals (cv f) n))):=by
 refine Ctr.imp ?_
 refine fI 0 Tryz.func136 ?_
 (repeat' (conv=>whnf);first|refine AsgOb.nil ?_|refine aC ?_ ?_<;>intro<;>try omega|refine z1_C1 ?_|refine⟨_,_,rfl,rfl,Nat.le_refl _,⟨by(simp only;omega),by omega⟩,?_⟩|fail);all_goals try (conv=>whnf)
 have hz:=rowsAt_zero (cv f) n
 refine LoopOb.mk (Y:=Nat) (st:=fun t=>⟨[(11,i64 t),(10,i64 n),(5, .vec 1),(2, .ptr 0 0)],[.box [.psl 1 (ints f.1),i64 f.2.1,i64 f.2.2], .vec 1 (ints (rowsAt (cv f) t n))]⟩)
  (inv:=fun t=>t≤n) (fun t=>n-t) 0 [0,1] (by omega) (by dsimp only;rw [hz];refine Le.mk (by kernel_rfl) ?_ ?_<;>repeat' (first|exact True.intro|refine And.intro ?_ ?_|exact Imp.refl _|exact Imp.any _|exact Imp.num (by simp)|exact rfl)) ?_
 intro t ht
 have hl:=rowsAt_len (cv f) ht
 have hil:=ints_len (rowsAt (cv f) t n)
 (repeat' (conv=>whnf);first|refine z1_C1 ?_|fail);all_goals try (conv=>whnf)
 refine CondOb.mk (fun hlt=>?_) (fun hlt=>?_)
 ·have htn:t<n:=by omega
  have hs:=rowsAt_set (cv f) htn
  (repeat' (conv=>whnf);first|refine⟨_,ints_get (by omega),?_⟩|refine⟨t,by omega,by omega,?_⟩|refine aC ?_ ?_<;>intro<;>try omega|refine z1_C1 ?_|(refine aK [] (WAt_ok f.1 f.2.1 f.2.2 t (bd_of hf) (by omega) (by omega)) ?_)|fail);all_goals try (conv=>whnf)
  exact⟨t+1,[0,1],by omega,by omega,by rw [←hs];(exact aL)⟩
 ·have e:t=n:=by omega
  subst e
  rw [rowsAt_full]
  (repeat' (conv=>whnf);first|refine aC ?_ ?_<;>intro<;>try omega|refine z2_C1 ?_|fail);all_goals try (conv=>whnf)
  refine .mk [.fz 1] ?_
  (repeat' (conv=>whnf);first|refine aC ?_ ?_<;>intro<;>try omega|refine z1_C1 ?_|fail);all_goals try (conv=>whnf)
  exact⟨rfl,Imp.refl _⟩
theorem sums_ok (p:List Pk) (hv:Vld p) (flow:Int):Ctr Tryz.prog 135 [.psl 3 (pks p),i64 flow] [] (fun r o=>o=[]∧r= .psl 1 (ints (vals (csm p flow) (endN p+1)))):=by
 refine Ctr.imp ?_
 refine fI 0 Tryz.func135 ?_
 have hp:=hv.l
 have hN:endN p≤2001:=by
  unfold endN
  split
  ·omega
  ·rename_i i hi
   have:=hv.g i (by omega)
   unfold bad at this;omega
 obtain⟨n,hn⟩:∃n,endN p+1=n:=⟨_,rfl⟩
 have hni:((endN p:Nat):Int)+1=n:=by omega
 rw [hn]
 have hz:=rowsAt_zero (csm p flow) n
 (repeat' (conv=>whnf);first|refine AsgOb.nil ?_|refine aC ?_ ?_<;>intro<;>try omega|refine z1_C1 ?_|(refine aK [] (end_ok p hv) ?_)|fail);all_goals try (conv=>whnf)
 rw [hni]
 (repeat' (conv=>whnf);first|refine aC ?_ ?_<;>intro<;>try omega|refine z1_C1 ?_|refine⟨_,_,rfl,rfl,Nat.le_refl _,⟨by(simp only;omega),by omega⟩,?_⟩|fail);all_goals try (conv=>whnf)
 refine LoopOb.mk (Y:=Nat) (st:=fun t=>⟨[(13,i64 t),(12,i64 n),(5, .vec 0),(0, .psl 3 (pks p)),(1,i64 flow)],[.vec 1 (ints (rowsAt (csm p flow) t n))]⟩)
  (inv:=fun t=>t≤n) (fun t=>n-t) 0 [0] (by omega) (by dsimp only;rw [hz];refine Le.mk (by kernel_rfl) ?_ ?_<;>repeat' (first|exact True.intro|refine And.intro ?_ ?_|exact Imp.refl _|exact Imp.any _|exact Imp.num (by simp)|exact rfl)) ?_
 intro t ht
 have hl:=rowsAt_len (csm p flow) ht
 have hil:=ints_len (rowsAt (csm p flow) t n)
 (repeat' (conv=>whnf);first|refine z1_C1 ?_|fail);all_goals try (conv=>whnf)
 refine CondOb.mk (fun hlt=>?_) (fun hlt=>?_)
 ·have htn:t<n:=by omega
  have hs:=rowsAt_set (csm p flow) htn
  (repeat' (conv=>whnf);first|refine⟨_,ints_get (by omega),?_⟩|refine⟨t,by omega,by omega,?_⟩|refine aC ?_ ?_<;>intro<;>try omega|refine z1_C1 ?_|(refine aK [] (Bytes_ok p (by omega) hv.sml flow t) ?_)|fail);all_goals try (conv=>whnf)
  exact⟨t+1,[0],by omega,by omega,by rw [←hs];(exact aL)⟩
 ·have e:t=n:=by omega
  subst e
  rw [rowsAt_full]
  (repeat' (conv=>whnf);first|refine aC ?_ ?_<;>intro<;>try omega|refine z2_C1 ?_|fail);all_goals try (conv=>whnf)
  refine .mk [.fz 0] ?_
  (repeat' (conv=>whnf);first|refine aC ?_ ?_<;>intro<;>try omega|refine z1_C1 ?_|fail);all_goals try (conv=>whnf)
  exact⟨rfl,Imp.refl _⟩
theorem cCheck_ok (p:List Pk) (hv:Vld p) (flow:Int) (hf: -1≤flow) (f:C3) (vf:VC f):Ctr Tryz.prog 134 [.psl 3 (pks p),i64 flow,crv f.1 f.2.1 f.2.2] [] (fun r o=>o=[]∧r=i64 0):=by
 refine fI 0 Tryz.func134 ?_
 have hp:=hv.l
 have cV:=Validate_ok p (by omega)
 rw [vld_zero.2 hv]at cV
 have hV:ValidP f.1 f.2.1 f.2.2:=vf.valid
 (repeat' (conv=>whnf);first|refine aC ?_ ?_<;>intro<;>try omega|refine z1_C1 ?_|(refine aK [] cV ?_)|(refine aK [] (CValid_ok f.1 f.2.1 f.2.2 (by have:=vf.n2;omega)) ?_)|fail);all_goals try (conv=>whnf)
 all_goals first
  |exact⟨rfl,rfl⟩
  |exact absurd hV (by assumption)
  |trace_state
end
section
open Go.Sx Go.Pk Go.Cv Go.St
theorem vint {F:Nat→Int} {n t:Nat} (h:t<n):(ints (vals F n))[t]? =some [i64 (F t)]:=by
 have:=ints_get (l:=vals F n) (j:=t) (by rw [vals_len];exact h)
 rw [vals_get h]at this;exact this
theorem endN_le {p:List Pk} (hv:Vld p):endN p≤2001:=by
 have hp:=hv.l
 unfold endN
 split
 ·omega
 ·rename_i i hi
  have:=hv.g i (by omega)
  unfold bad at this;omega
def VioR (A F:Nat→Int) (N:Nat) (x:Int×Int×Bool):Prop:=
 (∃s t:Nat,s<t∧t≤N∧F (t-s)<A t-A s∧x=((s:Int),(t:Int),true))∨(Kp A F N∧x=(0,0,false))
theorem z1_C2 {G H:Prop} (k:H) (h:H→G:=by first|exact fun r=>aS r|exact fun r=>aG r|exact fun r=>aD r|exact fun r=>aH r|exact fun r=>aP_C1 r|exact fun r=>aI r|exact fun r=>aJ r|exact fun r=>aW (.qs [0,1,2,3,4,5,6,7,8,9] .nil) r|exact fun r=>aW (.qs [0,1,2,3,4,5,6,7,8,9,10,11,12,13,14,15] .nil) r):G:=h k
theorem Violation_ok (p:List Pk) (hv:Vld p) (flow:Int) (hf: -1≤flow) (f:C3) (vf:VC f):Ctr Tryz.prog 112 [.psl 3 (pks p),i64 flow,crv f.1 f.2.1 f.2.2] [] (fun r o=>∃x:Int×Int×Bool,VioR (csm p flow) (cv f) (endN p) x∧o=[]∧r= .tup [i64 x.1,i64 x.2.1, .bl x.2.2,i64 0]):=by
 refine Ctr.impE ?_
 refine fI 0 Tryz.func112 ?_
 have hN:=endN_le hv
 have hC:=csm_cum hv flow
 have hA:=fun t=>csm_bd hv flow t
 have cS:=sums_ok p hv flow
 have cT:=Table_ok f vf (endN p+1) (by omega)
 have hF0:∀t,0≤cv f t:=fun t=>cv_nonneg vf t
 have hFm:∀{s t:Nat},s≤t→cv f s≤cv f t:=fun h=>vf.cvle h
 generalize csm p flow=A at*
 generalize endN p=N at*
 generalize hF:cv f=F at*
 have hal:(ints (vals A (N+1))).length =N+1:=by rw [ints_len,vals_len]
 have hwl:(ints (vals F (N+1))).length =N+1:=by rw [ints_len,vals_len]
 have hAg:=fun t (h:t<N+1)=>vint (F:=A) h
 have hFg:=fun t (h:t<N+1)=>vint (F:=F) h
 have hFb:∀t,t≤N→F t≤6000000000000000000:=fun t ht=>by rw [←hF];exact(vc_bd vf (by omega)).2
 generalize ints (vals A (N+1))=VA at*
 generalize ints (vals F (N+1))=VF at*
 (repeat' (conv=>whnf);first|refine aC ?_ ?_<;>intro<;>try omega|refine z1_C2 ?_|(refine aK [] (cCheck_ok p hv flow hf f vf) ?_)|(refine aK [] cS ?_)|(refine CallOb.mk [] cT rfl ⟨Imp.refl _,Imp.num (by omega),trivial⟩ rfl rfl ?_;rintro _ _ ⟨rfl,rfl⟩)|fail);all_goals try (conv=>whnf)
 refine LoopOb.mk (Y:=Nat) (st:=fun t=>⟨[(13,i64 t),(12, .psl 1 VF),(11, .psl 1 VA)],[]⟩)
  (inv:=fun t=>(1≤t∧t≤N+1)∧∀t',t'<t→∀s,s<t'→A t'-A s≤F (t'-s)) (fun t=>N+1-t) 1 [] ⟨by omega,fun t' h s hs=>by omega⟩ (by(exact aL)) ?_
 rintro t ⟨⟨ht1,ht⟩,hi⟩
 have hb1:=hA t
 have hb2:=hA (t-1)
 (repeat' (conv=>whnf);first|refine z1_C2 ?_|fail);all_goals try (conv=>whnf)
 refine CondOb.mk (fun hlt=>?_) (fun hlt=>?_)
 ·have htN:t≤N:=by omega
  have g1:=hAg t (by omega)
  have g2:=hAg (t-1) (by omega)
  have hskip:A t=A (t-1)→∀t',t'<t+1→∀s,s<t'→A t'-A s≤F (t'-s):=fun he t' h s hs=>by
   by_cases e:t'=t
   ·subst e
    by_cases e2:s=t'-1
    ·have:=hF0 (t'-s);rw [←e2]at he;omega
    ·have h1:=hi (t'-1) (by omega) s (by omega)
     have h2:=hFm (s:=t'-1-s) (t:=t'-s) (by omega)
     omega
   ·exact hi t' (by omega) s hs
  (repeat' (conv=>whnf);first|refine⟨t-1,_,by omega,g2,?_⟩|refine⟨t,_,rfl,g1,?_⟩|refine aC ?_ ?_<;>intro<;>try omega|refine z1_C2 ?_|fail);all_goals try (conv=>whnf)
  ·exact⟨t+1,[],⟨by omega,hskip (by assumption)⟩,by omega,by(exact aL)⟩
  ·refine LoopOb.mk (Y:=Nat) (st:=fun m=>⟨[(14,i64 ((t:Int)-1-m)),(13,i64 t),(12, .psl 1 VF),(11, .psl 1 VA)],[]⟩)
    (inv:=fun m=>m≤t∧∀s,s<t→t-1-m<s∨m=t→A t-A s≤F (t-s)) (fun m=>t-m) 0 [] ⟨by omega,fun s hs h=>by omega⟩ (by(exact aL)) ?_
   rintro m ⟨hm,hmi⟩
   (repeat' (conv=>whnf);first|refine z1_C2 ?_|fail);all_goals try (conv=>whnf)
   refine CondOb.mk (fun hl2=>?_) (fun hl2=>?_)
   ·obtain⟨s,hs⟩:∃s:Nat,(t:Int)-1-m=s:=⟨t-1-m,by omega⟩
    have g3:=hAg s (by omega)
    have g4:=hFg (t-s) (by omega)
    have hb3:=hA s
    have hb4:=hF0 (t-s)
    have hb5:=hFb (t-s) (by omega)
    have hm2:¬F (t-s)<A t-A s→∀s',s'<t→t-1-(m+1)<s'∨m+1=t→A t-A s'≤F (t-s'):=fun hn s' h1 h2=>by
     by_cases e:s'=s
     ·subst e;omega
     ·exact hmi s' h1 (by omega)
    (repeat' (conv=>whnf);first|refine⟨t-s,_,by omega,g4,?_⟩|refine⟨s,_,by omega,g3,?_⟩|refine⟨t,_,rfl,g1,?_⟩|refine aC ?_ ?_<;>intro<;>try omega|refine z1_C2 ?_|fail);all_goals try (conv=>whnf)
    ·exact⟨((s:Int),(t:Int),true), .inl ⟨s,t,by omega,by omega,by assumption,rfl⟩,rfl,Imp.tup ⟨Imp.num (by omega),Imp.refl _,Imp.refl _,Imp.refl _,trivial⟩⟩
    ·exact⟨m+1,[],⟨by omega,hm2 (by assumption)⟩,by omega,by(exact aL)⟩
   ·have e:m=t:=by omega
    (repeat' (conv=>whnf);first|refine aC ?_ ?_<;>intro<;>try omega|refine z1_C2 ?_|fail);all_goals try (conv=>whnf)
    exact⟨t+1,[],⟨by omega,fun t' h s hs=>by
     by_cases e2:t'=t
     ·subst e2;exact hmi s hs (by omega)
     ·exact hi t' (by omega) s hs⟩,by omega,by(exact aL)⟩
 ·have e:t=N+1:=by omega
  subst e
  (repeat' (conv=>whnf);first|refine aC ?_ ?_<;>intro<;>try omega|refine z1_C2 ?_|fail);all_goals try (conv=>whnf)
  exact⟨(0,0,false), .inr ⟨fun s t h1 h2=>hi t (by omega) s h1,rfl⟩,rfl,Imp.refl _⟩
theorem Keeps_ok (p:List Pk) (hv:Vld p) (flow:Int) (hf: -1≤flow) (f:C3) (vf:VC f):Ctr Tryz.prog 82 [.psl 3 (pks p),i64 flow,crv f.1 f.2.1 f.2.2] [] (fun r o=>o=[]∧r= .bp (Kp (csm p flow) (cv f) (endN p))):=by
 refine Ctr.imp ?_
 refine fI 0 Tryz.func82 ?_
 (repeat' (conv=>whnf);first|refine aC ?_ ?_<;>intro<;>try omega|refine z1_C1 ?_|fail);all_goals try (conv=>whnf)
 refine aM [] (Violation_ok p hv flow hf f vf) rfl rfl ?_
 rintro _ _ ⟨x,hx,rfl,rfl⟩
 rcases hx with⟨s,t,h1,h2,h3,rfl⟩|⟨hk,rfl⟩
 ·dsimp only
  (repeat' (conv=>whnf);first|refine aC ?_ ?_<;>intro<;>try omega|refine z1_C1 ?_|fail);all_goals try (conv=>whnf)
  exact⟨rfl,Imp.bl ⟨fun h=>(by cases h),fun h=>by have:=h s t h1 h2;omega⟩⟩
 ·dsimp only
  (repeat' (conv=>whnf);first|refine aC ?_ ?_<;>intro<;>try omega|refine z1_C1 ?_|fail);all_goals try (conv=>whnf)
  exact⟨rfl,Imp.bl ⟨fun _=>hk,fun _=>rfl⟩⟩
end
section
open Go.Sx Go.Pk Go.Mc Go.Np Go.Tp Go.Cv
theorem SkP.vld {n:Nt} {p:List Pk} (h:SkP n p):Vld p:=by
 have hc8:=chk_n h.h
 refine⟨h.l,fun i hi=>?_,h.o⟩
 obtain⟨f1,f2,t1,t2,hRt,s1,s2⟩:=h.fl hi
 have:=hRt.s1
 have:=hRt.s2
 unfold bad;omega
def KpN (n:Nt) (p:List Pk) (m:Nat):Prop:=∀i,i<m→Kp (csm p i) (cv (ctc (n.fl.getD i fl0))) (endN p)
theorem OKee_ok (n:Nt) (hn:NL n) (p:List Pk) (h:SkP n p):Ctr Tryz.prog 54 [ntv n, .psl 3 (pks p)] [] (fun r o=>o=[]∧∃b:Bool,(b=true↔KpN n p n.fl.length)∧r= .bl b):=by
 refine fI 0 Tryz.func54 ?_
 have h60:=h.l
 have hpl:=pks_len p
 have hfl:=fll n.fl
 have hnf:=hn.fl
 have hv:=SkP.vld h
 (repeat' (conv=>whnf);first|refine aC ?_ ?_<;>intro<;>try omega|refine z2_T1 ?_|fail);all_goals try (conv=>whnf)
 refine aK [] (SChk_ok n hn p (by omega)) ?_
 rw [sck_zero.2 h]
 (repeat' (conv=>whnf);first|refine aC ?_ ?_<;>intro<;>try omega|refine z2_T1 ?_|fail);all_goals try (conv=>whnf)
 refine LoopOb.mk (Y:=Nat) (st:=fun i=>⟨[(14,i64 i),(13,i64 (fls n.fl).length),(12, .psl 8 (fls n.fl)),(2, .ptr 0 0),(1, .psl 3 (pks p))],[nbx n]⟩)
  (inv:=fun i=>i≤n.fl.length∧KpN n p i) (fun i=>n.fl.length-i) 0 [0] ⟨Nat.zero_le _,fun i hi=>by omega⟩ (by(exact aL)) ?_
 rintro i ⟨hi,hk⟩
 by_cases hil:i<n.fl.length
 ·have hfg:=flg (l:=n.fl) (i:=i) hil
  obtain⟨c1,c2,c3,c4⟩:=chk_ct h.h i hil
  have cK:=Keeps_ok p hv i (by omega) (ctc (n.fl.getD i fl0)) c1
  have hk1:Kp (csm p i) (cv (ctc (n.fl.getD i fl0))) (endN p)→KpN n p (i+1):=fun hq j hj=>by
   by_cases e:j=i
   ·subst e;exact hq
   ·exact hk j (by omega)
  have hk2:KpN n p n.fl.length→Kp (csm p i) (cv (ctc (n.fl.getD i fl0))) (endN p):=fun hq=>hq i hil
  generalize Kp (csm p i) (cv (ctc (n.fl.getD i fl0))) (endN p)=Q at*
  generalize n.fl.getD i fl0=f at*
  (repeat' (conv=>whnf);first|refine⟨i,_,rfl,hfg,?_⟩|refine aC ?_ ?_<;>intro<;>try omega|refine z2_T1 ?_|(refine CallOb.mk [] cK rfl ⟨Imp.refl _,Imp.refl _,Imp.agg ⟨Imp.refl _,Imp.num (show f.p=((f.p.toNat:Nat):Int)by omega),Imp.refl _,trivial⟩,trivial⟩ rfl rfl ?_;rintro _ _ ⟨rfl,rfl⟩)|fail);all_goals try (conv=>whnf)
  all_goals first
   |exact⟨rfl,false,⟨fun e=>(by cases e),fun e=>absurd (hk2 e) (by assumption)⟩,rfl⟩
   |exact⟨i+1,[0],⟨by omega,hk1 (Classical.not_not.1 (by assumption))⟩,by omega,by(exact aL)⟩
   |exact⟨i+1,[0],⟨by omega,hk1 (by assumption)⟩,by omega,by(exact aL)⟩
   |trace_state
 ·obtain rfl:i=n.fl.length:=by omega
  (repeat' (conv=>whnf);first|refine aC ?_ ?_<;>intro<;>try omega|refine z2_T1 ?_|fail);all_goals try (conv=>whnf)
  exact⟨rfl,true,⟨fun _=>hk,fun _=>rfl⟩,rfl⟩
end
section
open Go.Sx Go.Pk Go.Mc Go.Np Go.Tp Go.Cv
def KpAll (n:Nt) (p:List Pk):Prop:=SkP n p∧KpN n p n.fl.length
theorem OKeeG_ok (n:Nt) (hn:NL n) (p:List Pk) (hp:p.length≤1000):Ctr Tryz.prog 54 [ntv n, .psl 3 (pks p)] [] (fun r o=>o=[]∧∃b:Bool,(b=true↔KpAll n p)∧r= .bl b):=by
 by_cases h:SkP n p
 ·exact(OKee_ok n hn p h).mono fun r o ⟨h1,b,h2,h3⟩=>⟨h1,b,h2.trans ⟨fun c=>⟨h,c⟩,fun c=>c.2⟩,h3⟩
 ·refine fI 0 Tryz.func54 ?_
  have cS:=SChk_ok n hn p (by omega)
  have h0:sck n p≠0:=fun c=>h (sck_zero.1 c)
  generalize sck n p=e at*
  (repeat' (conv=>whnf);first|refine aC ?_ ?_<;>intro<;>try omega|refine z1_C1 ?_|(refine aK [] (cS) ?_)|fail);all_goals try (conv=>whnf)
  all_goals exact⟨rfl,false,⟨fun e=>(by cases e),fun e=>absurd e.1 h⟩,rfl⟩
end
section
open Go.Sx Go.Cv Go.Gd Go.Np Go.Pk Go.St Go.Mc
def CkP (n:Nt) (a:Atk):Prop:=KpAll n a.p∧0≤a.a∧a.a<a.p.length∧(a.p.getD a.a.toNat pk0).f =a.f∧enO n a.p (dR (rnG n a.p 1000).1) a.a=some a.d
theorem z1_J10 {G H:Prop} (k:H) (h:H→G:=by first|exact fun r=>aS r|exact fun r=>aG r|exact fun r=>aD r|exact fun r=>aH r|exact fun r=>aP_T11 r|exact fun r=>aI r|exact fun r=>aJ r|exact fun r=>aW (.qs [0,1,2] (.l 3 [] (.qs [4,5,6,7,8,9,10,11,12,13,14,15,16,17,18,19,20,21,22,23,24,25,26,27,28,29] .nil) .no)) r):G:=h k
theorem Check37_ok (n:Nt) (hn:NL n) (a:Atk) (ha:a.p.length≤1000):Ctr Tryz.prog 25 [ntv n,atw a] [] (fun r o=>o=[]∧r= .bp (CkP n a)):=by
 refine Ctr.imp ?_
 obtain⟨p,f,q,d⟩:=a
 dsimp only [atw]at ha⊢
 refine fI 0 Tryz.func25 ?_
 have hpl:=pks_len p
 obtain⟨B,hB⟩:∃B:Bool,B=true↔KpAll n p:=by
  by_cases h:KpAll n p
  ·exact⟨true,fun _=>h,fun _=>rfl⟩
  ·exact⟨false,fun c=>(by cases c),fun c=>absurd c h⟩
 have cK:=(OKeeG_ok n hn p ha).mono fun r o h=>(by obtain⟨h1,b,h2,h3⟩:=h;exact⟨h1,by rw [h3,Bool.eq_iff_iff.2 (h2.trans hB.symm)]⟩:o=[]∧r= .bl B)
 by_cases hg:KpAll n p∧0≤q∧q<p.length∧(p.getD q.toNat pk0).f =f
 ·obtain⟨hk,q0,q1,hf⟩:=hg
  rw [show B=true from hB.2 hk]at cK
  have hC:CkP n ⟨p,f,q,d⟩↔enO n p (dR (rnG n p 1000).1) q=some d:=⟨fun h=>h.2.2.2.2,fun h=>⟨hk,q0,q1,hf,h⟩⟩
  have cR:=RunG_ok n hn p ha 1000
  have hr:=rnG_in hk.1 (show(0:Int)≤1000 by decide) (by decide)
  rw [hr]at cR hC
  have cE:=OEnd_ok n hn p hk.1 _ (MsL.of hk.1 (by decide) (trR_sh hk.1.rts):MsL (trR (toF n p) (liN n) (1000:Int).toNat)) q
  have hg:=pks_get (l:=p) (j:=q.toNat) (by omega)
  generalize p.getD q.toNat pk0=x at*
  dsimp only [rnV]at cR hC
  generalize enO n p (dR (trR (toF n p) (liN n) (1000:Int).toNat)) q=E at*
  cases E with
  |none=>
   simp only [arrT]at cE
   (repeat' (conv=>whnf);first|refine⟨q.toNat,_,by omega,hg,?_⟩|refine aC ?_ ?_<;>intro<;>try omega|refine z1_J10 ?_|(refine aK [] (cK) ?_)|(refine aK [] (cR) ?_)|(refine aK [] (cE) ?_)|fail);all_goals try (conv=>whnf)
   exact⟨rfl,Imp.bl ⟨fun c=>(by cases c),fun c=>absurd (hC.1 c) (by simp)⟩⟩
  |some y=>
   simp only [arrT]at cE
   (repeat' (conv=>whnf);first|refine⟨q.toNat,_,by omega,hg,?_⟩|refine aC ?_ ?_<;>intro<;>try omega|refine z1_J10 ?_|(refine aK [] (cK) ?_)|(refine aK [] (cR) ?_)|(refine aK [] (cE) ?_)|fail);all_goals try (conv=>whnf)
   exact⟨rfl,Imp.bp (by rw [hC];simp)⟩
 ·have hC:¬CkP n ⟨p,f,q,d⟩:=fun h=>hg ⟨h.1,h.2.1,h.2.2.1,h.2.2.2.1⟩
  cases B with
  |false=>
   (repeat' (conv=>whnf);first|refine aC ?_ ?_<;>intro<;>try omega|refine z1_J10 ?_|(refine aK [] (cK) ?_)|fail);all_goals try (conv=>whnf)
   all_goals exact⟨rfl,Imp.bl ⟨fun c=>(by cases c),fun c=>absurd c hC⟩⟩
  |true=>
   have hk:=hB.1 rfl
   by_cases hq:0≤q∧q<p.length
   ·have hg2:=pks_get (l:=p) (j:=q.toNat) (by omega)
    have hf:¬(p.getD q.toNat pk0).f =f:=fun c=>hg ⟨hk,hq.1,hq.2,c⟩
    generalize p.getD q.toNat pk0=x at*
    (repeat' (conv=>whnf);first|refine⟨q.toNat,_,by omega,hg2,?_⟩|refine aC ?_ ?_<;>intro<;>try omega|refine z1_J10 ?_|(refine aK [] (cK) ?_)|fail);all_goals try (conv=>whnf)
    all_goals exact⟨rfl,Imp.bl ⟨fun c=>(by cases c),fun c=>absurd c hC⟩⟩
   ·(repeat' (conv=>whnf);first|refine aC ?_ ?_<;>intro<;>try omega|refine z1_J10 ?_|(refine aK [] (cK) ?_)|fail);all_goals try (conv=>whnf)
    all_goals exact⟨rfl,Imp.bl ⟨fun c=>(by cases c),fun c=>absurd c hC⟩⟩
end
end Go.Proofs.YtjhmjiimpmmnhaaGreat
