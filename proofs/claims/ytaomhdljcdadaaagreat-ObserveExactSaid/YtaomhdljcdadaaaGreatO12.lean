/- Lemmas of this seat. Conditions: as stated. -/
import Derived.Test.YtaomhdljcdadaaaGreatC2
import Derived.Test.YtaomhdljcdadaaaGreatD4
import Derived.Test.YtaomhdljcdadaaaGreatS8
import Derived.Test.YtaomhdljcdadaaaGreatT1
import Derived.Test.YtaomhdljcdadaaaGreatPl
set_option linter.unusedVariables false
set_option linter.unusedSimpArgs false
set_option maxHeartbeats 2000000
set_option maxRecDepth 8000
namespace Go.Proofs.YtaomhdljcdadaaaGreat
section
open Go.Sx Go.Pk Go.Mc Go.Np Go.Tp Go.Cv
def KpG (p:List Pk) (flow:Int) (vs:List Int) (q i:Int):Prop:=∃x,VioG p flow vs q i x∧x.2=0∧x.1.2.2=false
theorem kpg_of {p:List Pk} {flow:Int} {vs:List Int} {q i:Int} {x:(Int×Int×Bool)×Int} (h:VioG p flow vs q i x):(x.2=0∧x.1.2.2=false)↔KpG p flow vs q i:=
 ⟨fun c=>⟨x,h,c⟩,fun⟨y,hy,c⟩=>by rw [h.uniq hy];exact c⟩
theorem cKp_ok (p:List Pk) (hp:p.length≤1000000) (flow:Int) (vs:List Int) (q i:Int) (hv:vs.length≤1000000):
  Ctr Tryz.prog 69 [.psl 3 (pks p),i64 flow,crv vs q i] [] (fun r o=>o=[]∧r= .bp (KpG p flow vs q i)):=
 Ctr.imp ((cKeepsG_ok p hp flow vs q i hv).mono fun r o ⟨x,h1,h2,h3⟩=>⟨h2,by rw [h3];exact Imp.bp (kpg_of h1)⟩)
theorem rKp_ok (p:List Pk) (hp:p.length≤1000000) (flow:Int) (vs:List Int) (q i:Int) (hv:vs.length≤1000000):
  Ctr Tryz.prog 100 [.psl 3 (pks p),i64 flow,crv vs q i] [] (fun r o=>o=[]∧r= .bp (KpG p flow vs q i)):=
 Ctr.imp ((rKeepsG_ok p hp flow vs q i hv).mono fun r o ⟨x,h1,h2,h3⟩=>⟨h2,by rw [h3];exact Imp.bp (kpg_of h1)⟩)
theorem rkee_ok (p:List Pk) (hp:p.length≤1000000) (vs:List Int) (q i:Int) (hv:vs.length≤1000000):
  Ctr Tryz.prog 70 [crv vs q i, .psl 3 (pks p)] [] (fun r o=>o=[]∧r= .bp (KpG p 0 vs q i)):=by
 refine fI 0 Tryz.func70 ?_
 have cK:=rKp_ok p hp 0 vs q i hv
 (repeat' (conv=>whnf);first|refine aC ?_ ?_<;>intro<;>try omega|refine z1_C1 ?_|(refine aK [] (cK) ?_)|fail);all_goals try (conv=>whnf)
 exact⟨rfl,rfl⟩
theorem kpg_iff {p:List Pk} (hv:Vld p) {flow:Int} (hf: -1≤flow) {vs:List Int} {q:Nat} {i:Int} (hc:ValidP vs q i):KpG p flow vs q i↔Kp (csm p flow) (cv (vs,q,i)) (endN p):=by
 have hG:∀x,VioU (csm p flow) (cv (vs,q,i)) (endN p) x→VioG p flow vs q i (x,0):=fun x hx=>⟨.ok (vld_zero.2 hv) hf hc rfl,fun h=>absurd rfl h,fun _ q2 h=>by
  have:q2=q:=by omega
  subst this;exact hx⟩
 constructor
 ·rintro⟨⟨x,e⟩,⟨h1,h2,h3⟩,h4,h5⟩
  rcases h3 h4 q rfl with⟨s,t,_,_,_,hx⟩|⟨hk,_⟩
  ·dsimp only at hx h5;rw [hx]at h5;cases h5
  ·exact hk
 ·intro hk
  exact⟨((0,0,false),0),hG _ (.inr ⟨hk,rfl⟩),rfl,rfl⟩
theorem z3_O12 {G H:Prop} (k:H) (h:H→G:=by first|exact fun r=>aS r|exact fun r=>aG r|exact fun r=>aD r|exact fun r=>aP_C1 r|exact fun r=>aI r|exact fun r=>aJ r|exact fun r=>aW (.qs [0,1,2,3,4,5,6,7,8,9,10,11] (.l 12 [] (.l 13 [] (.qs [14] .nil) .no) .no)) r):G:=h k
theorem z2_O12 {G H:Prop} (k:H) (h:H→G:=by first|exact fun r=>aS r|exact fun r=>aG r|exact fun r=>aD r|exact fun r=>aH r|exact fun r=>aP_C1 r|exact fun r=>aI r|exact fun r=>aJ r|exact fun r=>aW (.qs [0,1,2,3,4,5,6,7,8,9,10,11] (.l 12 [] (.l 13 [] (.qs [14] .nil) .no) .no)) r):G:=h k
theorem own_ok (p:List Pk) (hp:p.length≤1000) (f:Int):Ctr Tryz.prog 71 [.psl 3 (pks p),i64 f] [] (fun r o=>o=[]∧r= .psl 3 (pks (ownF p f))):=by
 refine Ctr.imp ?_
 refine fI 0 Tryz.func71 ?_
 have hpl:=pks_len p
 (repeat' (conv=>whnf);first|refine aC ?_ ?_<;>intro<;>try omega|refine z2_O12 ?_|fail);all_goals try (conv=>whnf)
 refine LoopOb.mk (Y:=Nat) (st:=fun i=>⟨[(6,i64 i),(5, .vec 1),(4, .vec 0),(0, .psl 3 (pks p)),(1,i64 f)],[.vec 3 [], .vec 3 (pks (ownF (p.take i) f))]⟩)
  (inv:=fun i=>i≤p.length) (fun i=>p.length-i) 0 [0,1] (by omega) (by(exact aL)) ?_
 rintro i hi
 by_cases hil:i<p.length
 ·have hg:=pks_get hil
  have hst:=ownF_take (f:=f) hil
  have hl:=pks_len (ownF (p.take i) f)
  have hl2:=ownF_len (p:=p.take i) (f:=f)
  rw [List.length_take]at hl2
  have hap:=fun x=>(show pks (ownF (p.take i) f++[x])=pks (ownF (p.take i) f)++[pkw x]by simp [pks])
  generalize p.getD i pk0=x at*
  generalize ownF (p.take i) f=V at*
  by_cases hc:x.f=f
  ·rw [if_pos hc]at hst
   (repeat' (conv=>whnf);first|refine⟨i,_,rfl,hg,?_⟩|refine aC ?_ ?_<;>intro<;>try omega|refine z2_O12 ?_|refine And.intro ?_ ?_|fail);all_goals try (conv=>whnf)
   all_goals first
    |exact⟨i+1,[0,3],by omega,by omega,by rw [hst,hap];(exact aL)⟩
    |trace_state
  ·rw [if_neg hc]at hst
   (repeat' (conv=>whnf);first|refine⟨i,_,rfl,hg,?_⟩|refine aC ?_ ?_<;>intro<;>try omega|refine z2_O12 ?_|fail);all_goals try (conv=>whnf)
   exact⟨i+1,[0,1],by omega,by omega,by rw [hst];(exact aL)⟩
 ·obtain rfl:i=p.length:=by omega
  rw [List.take_length]
  (repeat' (conv=>whnf);first|refine aC ?_ ?_<;>intro<;>try omega|refine z3_O12 ?_|fail);all_goals try (conv=>whnf)
  refine .mk [.fz 1] ?_
  (repeat' (conv=>whnf);first|refine aC ?_ ?_<;>intro<;>try omega|refine z2_O12 ?_|fail);all_goals try (conv=>whnf)
  exact⟨rfl,Imp.refl _⟩
def KpAll (n:Nt) (p:List Pk):Prop:=SkP n p∧KpN n p n.fl.length
theorem OKeeG_ok (n:Nt) (hn:NL n) (p:List Pk) (hp:p.length≤1000):Ctr Tryz.prog 27 [ntv n, .psl 3 (pks p)] [] (fun r o=>o=[]∧∃b:Bool,(b=true↔KpAll n p)∧r= .bl b):=by
 by_cases h:SkP n p
 ·exact(OKee_ok n hn p h).mono fun r o ⟨h1,b,h2,h3⟩=>⟨h1,b,h2.trans ⟨fun c=>⟨h,c⟩,fun c=>c.2⟩,h3⟩
 ·refine fI 0 Tryz.func27 ?_
  have cS:=SChk_ok n hn p (by omega)
  have h0:sck n p≠0:=fun c=>h (sck_zero.1 c)
  generalize sck n p=e at*
  (repeat' (conv=>whnf);first|refine aC ?_ ?_<;>intro<;>try omega|refine z1_C1 ?_|(refine aK [] (cS) ?_)|fail);all_goals try (conv=>whnf)
  all_goals exact⟨rfl,false,⟨fun e=>(by cases e),fun e=>absurd e.1 h⟩,rfl⟩
theorem z4_O12 {G H:Prop} (k:H) (h:H→G:=by first|exact fun r=>aS r|exact fun r=>aG r|exact fun r=>aD r|exact fun r=>aH r|exact fun r=>aP_C1 r|exact fun r=>aI r|exact fun r=>aJ r|exact fun r=>aW (.qs [0,1,2,3,4,5,6,7] (.l 8 [5,1] (.l 9 [] (.qs [10] .nil) .no) .no)) r):G:=h k
theorem RKeeG_ok (n:Nt) (hn:NL n) (p:List Pk) (hp:p.length≤1000):Ctr Tryz.prog 28 [ntv n, .psl 3 (pks p)] [] (fun r o=>o=[]∧∃b:Bool,(b=true↔KpAll n p)∧r= .bl b):=by
 by_cases h:¬SkP n p
 ·refine fI 0 Tryz.func28 ?_
  have cS:=RChk_ok n hn p (by omega)
  have h0:sck n p≠0:=fun c=>h (sck_zero.1 c)
  generalize sck n p=e at*
  (repeat' (conv=>whnf);first|refine aC ?_ ?_<;>intro<;>try omega|refine z4_O12 ?_|(refine aK [] (cS) ?_)|fail);all_goals try (conv=>whnf)
  all_goals exact⟨rfl,false,⟨fun e=>(by cases e),fun e=>absurd e.1 h⟩,rfl⟩
 replace h:=Classical.not_not.1 h
 refine fI 0 Tryz.func28 ?_
 have h60:=h.l
 have hpl:=pks_len p
 have hfl:=fll n.fl
 have hnf:=hn.fl
 have hv:=SkP.vld h
 (repeat' (conv=>whnf);first|refine aC ?_ ?_<;>intro<;>try omega|refine z4_O12 ?_|fail);all_goals try (conv=>whnf)
 refine aK [] (RChk_ok n hn p (by omega)) ?_
 rw [sck_zero.2 h]
 (repeat' (conv=>whnf);first|refine aC ?_ ?_<;>intro<;>try omega|refine z4_O12 ?_|fail);all_goals try (conv=>whnf)
 refine LoopOb.mk (Y:=Nat) (st:=fun i=>⟨[(5,i64 i),(2, .ptr 0 0),(1, .psl 3 (pks p))],[nbx n]⟩)
  (inv:=fun i=>i≤n.fl.length∧KpN n p i) (fun i=>n.fl.length-i) 0 [0] ⟨Nat.zero_le _,fun i hi=>by omega⟩ (by(exact aL)) ?_
 rintro i ⟨hi,hk⟩
 by_cases hil:i<n.fl.length
 ·have hfg:=flg (l:=n.fl) (i:=i) hil
  obtain⟨c1,c2,c3,c4⟩:=chk_ct h.h i hil
  have hol:=ownF_len (p:=p) (f:=i)
  have hq:KpG (ownF p i) 0 (n.fl.getD i fl0).v (n.fl.getD i fl0).p (n.fl.getD i fl0).q ↔Kp (csm p i) (cv (ctc (n.fl.getD i fl0))) (endN p):=by
   rw [show(n.fl.getD i fl0).p =((n.fl.getD i fl0).p.toNat :Nat)by omega]
   rw [kpg_iff (own_vld hv i) (by omega) c1.valid]
   exact own_kp hv (f:=(i:Int)) (by omega) (F:=cv (ctc (n.fl.getD i fl0))) (fun t=>c1.nonneg t) (fun h=>VF.cvle c1 h)
  have hvl:(n.fl.getD i fl0).v.length ≤1000000:=by have:=c1.n2;unfold ctc at this;dsimp only at this;omega
  have cO:=own_ok p (by omega) i
  have cK:=rkee_ok (ownF p i) (by omega) _ (n.fl.getD i fl0).p (n.fl.getD i fl0).q hvl
  have hk1:Kp (csm p i) (cv (ctc (n.fl.getD i fl0))) (endN p)→KpN n p (i+1):=fun hq j hj=>by
   by_cases e:j=i
   ·subst e;exact hq
   ·exact hk j (by omega)
  have hk2:KpN n p n.fl.length→Kp (csm p i) (cv (ctc (n.fl.getD i fl0))) (endN p):=fun hq=>hq i hil
  rw [←hq]at hk1 hk2
  clear hq
  generalize KpG (ownF p i) 0 (n.fl.getD i fl0).v (n.fl.getD i fl0).p (n.fl.getD i fl0).q =Q at*
  generalize n.fl.getD i fl0=f at*
  generalize ownF p i=W at*
  (repeat' (conv=>whnf);first|refine⟨i,_,rfl,hfg,?_⟩|refine aC ?_ ?_<;>intro<;>try omega|refine z4_O12 ?_|(refine aK [] (cO) ?_)|(refine aK [] (cK) ?_)|refine And.intro ?_ ?_|fail);all_goals try (conv=>whnf)
  all_goals first
   |rfl
   |exact⟨false,⟨fun e=>(by cases e),fun e=>absurd (hk2 e.2) (by assumption)⟩,rfl⟩
   |exact⟨i+1,[0],⟨by omega,hk1 (Classical.not_not.1 (by assumption))⟩,by omega,by(exact aL)⟩
   |exact⟨i+1,[0],⟨by omega,hk1 (by assumption)⟩,by omega,by(exact aL)⟩
   |trace_state
 ·obtain rfl:i=n.fl.length:=by omega
  (repeat' (conv=>whnf);first|refine aC ?_ ?_<;>intro<;>try omega|refine z4_O12 ?_|fail);all_goals try (conv=>whnf)
  exact⟨rfl,true,⟨fun _=>⟨h,hk⟩,fun _=>rfl⟩,rfl⟩
end
section
open Go.Sx Go.Pk Go.Cv Go.St
structure Pb where
 x:Pk
 h: -4294967296≤x.t∧x.t≤4294967296
abbrev pbt (b:Pb):Int:=b.x.t
abbrev pbw (b:Pb):List SV:=pkw b.x
abbrev pbs (l:List Pb):List (List SV):=l.map pbw
theorem pbs_len (l:List Pb):(pbs l).length =l.length:=by simp [pbs]
abbrev pb0:Pb:=⟨pk0,by decide⟩
theorem pbs_get {l:List Pb} {i:Nat} (h:i<l.length):(pbs l)[i]? =some (pbw (l.getD i pb0)):=by simp [pbs,h]
abbrev bCmpOK (g:Nat) (k:Pb→Int):Prop:=∀a b:Pb,Ctr Tryz.prog g [.agg (pbw a), .agg (pbw b)] [] (fun r o=>∃c:Int,(c<0↔k a<k b)∧o=[]∧r=i64 c)
theorem pbs_at {A B:List Pb} {x:Pb}:(pbs (A++x::B))[A.length]? =some (pbw x):=by
 rw [show(pbs (A++x::B))=pbs A++(pbw x::pbs B)by simp [pbs],List.getElem?_append_right (by rw [pbs_len];omega),pbs_len,Nat.sub_self];rfl
theorem pbs_at2 {A B:List Pb} {x y:Pb}:(pbs (A++y::x::B))[A.length+1]? =some (pbw x):=by
 have:=pbs_at (A:=A++[y]) (x:=x) (B:=B)
 rw [List.append_assoc,List.length_append]at this
 exact this
theorem pbs_swap {A B:List Pb} {x y:Pb}:((pbs (A++y::x::B)).set (A.length+1) (pbw y)).set A.length (pbw x)=pbs (A++x::y::B):=by
 have e:pbs (A++y::x::B)=pbs A++(pbw y::pbw x::pbs B):=by simp [pbs]
 have hl:=pbs_len A
 rw [e,List.set_append_right _ _ (by omega),List.set_append_right _ _ (by omega),show pbs (A++x::y::B)=pbs A++(pbw x::pbw y::pbs B)by simp [pbs]]
 rw [show A.length+1-(pbs A).length =1 by omega,show A.length-(pbs A).length =0 by omega]
 rfl
theorem aP_B5 {A B K:Prop} (k:K) (a:A:=by(simp only [zA,zT,zD,zC,zN,ints_len,zR,pbs_len];omega)) (b:B:=by(simp only [zA,zT,zD,zC,zN,ints_len,zR,pbs_len];omega)):(A∧B)∧K:=⟨⟨a,b⟩,k⟩
theorem z1_B5 {G H:Prop} (k:H) (h:H→G:=by first|exact fun r=>aS r|exact fun r=>aG r|exact fun r=>aD r|exact fun r=>aH r|exact fun r=>aP_B5 r|exact fun r=>aI r|exact fun r=>aJ r|exact fun r=>aW (.qs [0,1,2,3,4,5,6,7,8,9,10,11,12,13] (.l 14 [] (.qs [15,16] .nil) .no)) r|exact fun r=>aW (.qs [0,1,2,3,4,5,6,7,8,9,10,11,12,13,14] (.l 15 [] (.qs [16] (.l 17 [] .nil .no)) .no)) r):G:=h k
theorem binsSort_ok (g:Nat) (k:Pb→Int) (hc:bCmpOK g k) (P M T:List Pb) (hl:P.length+M.length+T.length≤1000000):
  Ctr Tryz.prog 140 [.vec 0,i64 P.length,i64 (P.length+M.length:Nat), .fn g []] [.vec 3 (pbs (P++(M++T)))] (fun r o=>o=[.vec 3 (pbs (P++(srt k M++T)))]∧r= .tup []):=by
 refine fI 1 Tryz.func140 ?_
 (repeat' (conv=>whnf);first|refine aC ?_ ?_<;>intro<;>try omega|refine z1_B5 ?_|fail);all_goals try (conv=>whnf)
 refine LoopOb.mk (Y:=Nat) (st:=fun i=>⟨[(8,i64 (P.length+i:Nat)),(0, .vec 0),(1,i64 P.length),(2,i64 (P.length+M.length:Nat)),(3, .fn g [])],[.vec 3 (pbs (P++(srt k (M.take i)++(M.drop i++T))))]⟩)
  (inv:=fun i=>1≤i∧i≤max 1 M.length) (fun i=>M.length-i) 1 [0] (by omega) ?_ ?_
 ·have e:srt k (M.take 1)++(M.drop 1++T)=M++T:=by
   cases M with
   |nil=>rfl
   |cons x r=>rfl
  rw [e]
  (exact aL)
 rintro i ⟨hi1,hi2⟩
 (repeat' (conv=>whnf);first|refine z1_B5 ?_|fail);all_goals try (conv=>whnf)
 refine CondOb.mk (fun hlt=>?_) (fun hlt=>?_)
 ·have hil:i<M.length:=by omega
  obtain⟨x,hx⟩:∃x,M[i]=x:=⟨_,rfl⟩
  have hd:M.drop i=x::M.drop (i+1):=by rw [List.drop_eq_getElem_cons hil,hx]
  have ht:srtR k (M.take (i+1))=insR k x (srtR k (M.take i)):=by rw [List.take_succ_eq_append_getElem hil,hx,srtR_snoc]
  have hRl:(srtR k (M.take i)).length =i:=by rw [srtR_len,List.length_take];omega
  have h0:=lay_zero P (srtR k (M.take i)) x (M.drop (i+1)++T)
  have hll:=fun m=>lay_len P (srtR k (M.take i)) x (M.drop (i+1)++T) m
  have hTl:(M.drop (i+1)++T).length ≤1000000:=by rw [List.length_append,List.length_drop];omega
  have hnx:P++(srt k (M.take (i+1))++(M.drop (i+1)++T))=P++((insR k x (srtR k (M.take i))).reverse ++(M.drop (i+1)++T)):=by unfold srt;rw [ht]
  rw [hd]
  rw [show P++(srt k (M.take i)++(x::M.drop (i+1)++T))=lay P (srtR k (M.take i)) x (M.drop (i+1)++T) 0 by rw [h0];rfl]
  have hlim:P.length+i+1+(M.drop (i+1)++T).length ≤1000000:=by rw [List.length_append,List.length_drop];omega
  generalize srtR k (M.take i)=R at*
  generalize hT:M.drop (i+1)++T=T' at*
  clear hd ht h0
  (repeat' (conv=>whnf);first|refine aC ?_ ?_<;>intro<;>try omega|refine z1_B5 ?_|fail);all_goals try (conv=>whnf)
  refine LoopOb.mk (Y:=Nat) (st:=fun m=>⟨[(9,i64 (P.length+(i-m):Nat)),(8,i64 (P.length+i:Nat)),(0, .vec 0),(1,i64 P.length),(2,i64 (P.length+M.length:Nat)),(3, .fn g [])],[.vec 3 (pbs (lay P R x T' m))]⟩)
   (inv:=fun m=>m≤i∧∀y∈R.take m,k x<k y) (fun m=>i-m) 0 [0] ⟨by omega,by simp⟩ (by(exact aL)) ?_
  rintro m ⟨hm,hmy⟩
  have hpl:=pbs_len (lay P R x T' m)
  rw [hll m,hRl]at hpl
  by_cases hmi:m<i
  ·obtain⟨A,B,y,hy,hA,e1,e2⟩:=lay_step P R x T' (m:=m) (by omega)
   have hg1:=pbs_at (A:=A) (x:=y) (B:=x::B)
   have hg2:=pbs_at2 (A:=A) (x:=x) (y:=y) (B:=B)
   have hsw:=pbs_swap (A:=A) (x:=x) (y:=y) (B:=B)
   have hcc:=hc x y
   have hst:¬k x<k y→lay P R x T' m=P++((insR k x R).reverse ++T'):=fun h=>lay_stop P T' hmy fun z hz=>by rw [hy]at hz;cases hz;exact h
   have hm2:k x<k y→∀z∈R.take (m+1),k x<k z:=fun h z hz=>by
    rw [List.take_succ_eq_append_getElem (by omega)]at hz
    rcases List.mem_append.1 hz with hz|hz
    ·exact hmy z hz
    ·rw [List.mem_singleton.1 hz]
     rw [List.getElem?_eq_getElem (by omega)]at hy
     rw [Option.some.inj hy];exact h
   rw [e1]at hpl⊢
   rw [e1]at hst
   (repeat' (conv=>whnf);first|refine⟨_,(List.getElem?_set_ne (by omega)).trans hg1,?_⟩|refine⟨_,hg1,?_⟩|refine⟨_,hg2,?_⟩|refine⟨A.length,by omega,by(first|omega|(simp only [List.length_set];omega)),?_⟩|refine⟨A.length+1,by omega,by omega,?_⟩|refine aC ?_ ?_<;>intro<;>try omega|refine z1_B5 ?_|(refine aM [] hcc rfl rfl ?_;rintro _ _ ⟨c,hck,rfl,rfl⟩)|fail);all_goals try (conv=>whnf)
   ·exact⟨m+1,[0],⟨by omega,hm2 (hck.1 (by assumption))⟩,by omega,by rw [e2,←hsw];(exact aL)⟩
   ·exact⟨i+1,[0],by omega,by omega,by rw [hT,hnx,←hst (fun h=>absurd (hck.2 h) (by assumption))];(exact aL)⟩
  ·have e:m=i:=by omega
   have hst:lay P R x T' m=P++((insR k x R).reverse ++T'):=lay_stop P T' hmy fun z hz=>by rw [List.getElem?_eq_none (by omega)]at hz;cases hz
   (repeat' (conv=>whnf);first|refine aC ?_ ?_<;>intro<;>try omega|refine z1_B5 ?_|fail);all_goals try (conv=>whnf)
   exact⟨i+1,[0],by omega,by omega,by rw [hT,hnx,←hst];(exact aL)⟩
 ·have e1:M.take i=M:=List.take_of_length_le (by omega)
  have e2:M.drop i=[]:=List.drop_of_length_le (by omega)
  rw [e1,e2]
  (repeat' (conv=>whnf);first|refine aC ?_ ?_<;>intro<;>try omega|refine z1_B5 ?_|fail);all_goals try (conv=>whnf)
  exact⟨rfl,rfl⟩
end
end Go.Proofs.YtaomhdljcdadaaaGreat
