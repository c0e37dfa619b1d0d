/- Lemmas of this seat. Conditions: as stated. -/
import Derived.Test.YtaomhdljcdadaaaGreatMtt
import Derived.Test.YtaomhdljcdadaaaGreatTy
import Derived.Test.YtaomhdljcdadaaaGreatPl
set_option linter.unusedVariables false
set_option linter.unusedSimpArgs false
set_option maxHeartbeats 2000000
set_option maxRecDepth 4000
namespace Go.Proofs.YtaomhdljcdadaaaGreat
section
open Go.Sx Go.Pk Go.Mc Go.Np
structure WrS where
 a:Int
 d:Int
 b:Bool
def worF (n:Nt) (p:List Pk) (D:Tp) (f:Int):Nat→WrS
 |0=>⟨0,0,false⟩
 |i+1=>match enO n p D i with
  |none=>worF n p D f i
  |some d=>if(p.getD i pk0).f =f∧((worF n p D f i).b =false∨(worF n p D f i).d <d)then⟨i,d,true⟩else worF n p D f i
abbrev wrV (s:WrS):SV:= .tup [i64 s.a,i64 s.d, .bl s.b]
theorem OWor_ok (n:Nt) (hn:NL n) (p:List Pk) (h:SkP n p) (ms:List (List Int)) (hm:MsL ms) (f:Int):Ctr Tryz.prog 19 [ntv n, .psl 3 (pks p), .agg [.psl 1 (trs ms)],i64 f] [] (fun r o=>o=[]∧r=wrV (worF n p (dR ms) f p.length)):=by
 refine fI 0 Tryz.func19 ?_
 have h60:=h.l
 have hpl:=pks_len p
 (repeat' (conv=>whnf);first|refine aC ?_ ?_<;>intro<;>try omega|refine z2_T1 ?_|fail);all_goals try (conv=>whnf)
 refine LoopOb.mk (Y:=Nat) (st:=fun i=>⟨[(17,i64 i),(16,i64 (pks p).length),(15, .psl 3 (pks p)),(8,i64 (worF n p (dR ms) f i).a),(9,i64 (worF n p (dR ms) f i).d),(10, .bl (worF n p (dR ms) f i).b),(6, .ptr 1 0),(4, .ptr 0 0),(1, .psl 3 (pks p)),(3,i64 f)],[nbx n, .box [.psl 1 (trs ms)]]⟩)
  (inv:=fun i=>i≤p.length) (fun i=>p.length-i) 0 [0,1] (by omega) (by(exact aL)) ?_
 rintro i hi
 by_cases hil:i<p.length
 ·have hg:=pks_get hil
  have cE:=OEnd_ok n hn p h ms hm i
  have hnx:worF n p (dR ms) f (i+1)=match enO n p (dR ms) i with
   |none=>worF n p (dR ms) f i
   |some d=>if(p.getD i pk0).f =f∧((worF n p (dR ms) f i).b =false∨(worF n p (dR ms) f i).d <d)then⟨i,d,true⟩else worF n p (dR ms) f i:=rfl
  generalize p.getD i pk0=x at*
  generalize worF n p (dR ms) f i=s at*
  obtain⟨sa,sd,sb⟩:=s
  dsimp only at hnx⊢
  cases he:enO n p (dR ms) i with
  |none=>
   rw [he]at cE hnx
   simp only [arrT]at cE hnx
   (repeat' (conv=>whnf);first|refine⟨i,_,rfl,hg,?_⟩|refine aC ?_ ?_<;>intro<;>try omega|refine z2_T1 ?_|(refine aK [] cE ?_)|fail);all_goals try (conv=>whnf)
   all_goals exact⟨i+1,[0,1],by omega,by omega,by rw [hnx];(exact aL)⟩
  |some d=>
   rw [he]at cE hnx
   simp only [arrT]at cE hnx
   cases sb
   ·(repeat' (conv=>whnf);first|refine⟨i,_,rfl,hg,?_⟩|refine aC ?_ ?_<;>intro<;>try omega|refine z2_T1 ?_|(refine aK [] cE ?_)|fail);all_goals try (conv=>whnf)
    all_goals first
     |exact⟨i+1,[0,1],by omega,by omega,by rw [hnx,if_neg (by omega)];(exact aL)⟩
     |exact⟨i+1,[0,1],by omega,by omega,by rw [hnx,if_pos ⟨by omega, .inl rfl⟩];(exact aL)⟩
     |trace_state
   ·have hnx2:=hnx
    simp only [Bool.true_eq_false,false_or]at hnx2
    (repeat' (conv=>whnf);first|refine⟨i,_,rfl,hg,?_⟩|refine aC ?_ ?_<;>intro<;>try omega|refine z2_T1 ?_|(refine aK [] cE ?_)|fail);all_goals try (conv=>whnf)
    all_goals first
     |exact⟨i+1,[0,1],by omega,by omega,by rw [hnx2,if_neg (by omega)];(exact aL)⟩
     |exact⟨i+1,[0,1],by omega,by omega,by rw [hnx2,if_pos ⟨by omega,by omega⟩];(exact aL)⟩
     |trace_state
 ·obtain rfl:i=p.length:=by omega
  (repeat' (conv=>whnf);first|refine aC ?_ ?_<;>intro<;>try omega|refine z2_T1 ?_|fail);all_goals try (conv=>whnf)
  exact⟨rfl,rfl⟩
def waiP (n:Nt) (p:List Pk) (D:Tp) (l c t:Int) (i:Nat):Prop:=∃a,arO n p D i (hop n (p.getD i pk0).f l)=some a∧a≤t∧(pfl n (p.getD i pk0)).cl =c∧∀d,dnO D i (hop n (p.getD i pk0).f l)=some d→t≤d
open Classical in
noncomputable def waiF (n:Nt) (p:List Pk) (D:Tp) (l c t:Int):Nat→Int
 |0=>0
 |i+1=>waiF n p D l c t i+if waiP n p D l c t i then(p.getD i pk0).s else 0
theorem waiF_yes {n:Nt} {p:List Pk} {D:Tp} {l c t:Int} {i:Nat} (h:waiP n p D l c t i):waiF n p D l c t (i+1)=waiF n p D l c t i+(p.getD i pk0).s :=by
 rw [waiF,if_pos h]
theorem waiF_no {n:Nt} {p:List Pk} {D:Tp} {l c t:Int} {i:Nat} (h:¬waiP n p D l c t i):waiF n p D l c t (i+1)=waiF n p D l c t i:=by
 rw [waiF,if_neg h,Int.add_zero]
theorem waiF_bd {n:Nt} {p:List Pk} (h:SkP n p) {D:Tp} {l c t:Int}:∀i,i≤p.length→0≤waiF n p D l c t i∧waiF n p D l c t i≤1500*i
 |0,_=>⟨Int.le_refl _,Int.le_refl _⟩
 |i+1,hi=>by
  have ih:=waiF_bd h (D:=D) (l:=l) (c:=c) (t:=t) i (by omega)
  obtain⟨_,_,_,_,hRt,s1,s2⟩:=h.fl (i:=i) (by omega)
  have b1:=hRt.s1
  have b2:=hRt.s2
  by_cases hw:waiP n p D l c t i
  ·rw [waiF_yes hw];omega
  ·rw [waiF_no hw];omega
theorem OWai_ok (n:Nt) (hn:NL n) (p:List Pk) (h:SkP n p) (ms:List (List Int)) (hm:MsL ms) (l c t:Int):Ctr Tryz.prog 22 [ntv n, .psl 3 (pks p), .agg [.psl 1 (trs ms)],i64 l,i64 c,i64 t] [] (fun r o=>o=[]∧r=i64 (waiF n p (dR ms) l c t p.length)):=by
 refine fI 0 Tryz.func22 ?_
 have h60:=h.l
 have hpl:=pks_len p
 have hfl:=fll n.fl
 have hwb:=fun i (hi:i≤p.length)=>waiF_bd h (D:=dR ms) (l:=l) (c:=c) (t:=t) i hi
 (repeat' (conv=>whnf);first|refine aC ?_ ?_<;>intro<;>try omega|refine z2_T1 ?_|fail);all_goals try (conv=>whnf)
 refine LoopOb.mk (Y:=Nat) (st:=fun i=>⟨[(23,i64 i),(22,i64 (pks p).length),(21, .psl 3 (pks p)),(13,i64 (waiF n p (dR ms) l c t i)),(8, .ptr 1 0),(6, .ptr 0 0),(1, .psl 3 (pks p)),(3,i64 l),(4,i64 c),(5,i64 t)],[nbx n, .box [.psl 1 (trs ms)]]⟩)
  (inv:=fun i=>i≤p.length) (fun i=>p.length-i) 0 [0,1] (by omega) (by(exact aL)) ?_
 rintro i hi
 have hb:=hwb i hi
 by_cases hil:i<p.length
 ·have hg:=pks_get hil
  obtain⟨f1,f2,_,_,hRt,s1,s2⟩:=h.fl hil
  have hfg:=flg (l:=n.fl) (i:=(p.getD i pk0).f.toNat) (by omega)
  have b1:=hRt.s1
  have b2:=hRt.s2
  have cA:=Arr_ok n hn p (by omega) ms hm i (hop n (p.getD i pk0).f l)
  have cD:=ODone_ok ms hm i (hop n (p.getD i pk0).f l)
  have hy:=fun hw=>waiF_yes (n:=n) (p:=p) (D:=dR ms) (l:=l) (c:=c) (t:=t) (i:=i) hw
  have hno:=fun hw=>waiF_no (n:=n) (p:=p) (D:=dR ms) (l:=l) (c:=c) (t:=t) (i:=i) hw
  unfold waiP at hy hno
  unfold pfl at hy hno
  generalize arO n p (dR ms) i (hop n (p.getD i pk0).f l)=ao at*
  generalize dnO (dR ms) i (hop n (p.getD i pk0).f l)=dn at*
  generalize waiF n p (dR ms) l c t i=w at*
  have cH:=Hop_ok n hn (p.getD i pk0).f l
  generalize hop n (p.getD i pk0).f l=hh at*
  generalize n.fl.getD (p.getD i pk0).f.toNat fl0=fw at*
  generalize p.getD i pk0=x at*
  cases ao with
  |none=>
   have e:=hno fun⟨a,h1,_⟩=>by cases h1
   simp only [arrT]at cA
   (repeat' (conv=>whnf);first|refine⟨i,_,rfl,hg,?_⟩|refine aC ?_ ?_<;>intro<;>try omega|refine z2_T1 ?_|(refine aK [] cH ?_)|(refine aK [] cA ?_)|fail);all_goals try (conv=>whnf)
   all_goals exact⟨i+1,[0,1],by omega,by omega,by rw [e];(exact aL)⟩
  |some a=>
   simp only [arrT]at cA
   cases dn with
   |none=>
    simp only [arrT]at cD
    have hy2:=fun(_:Unit) (h1:a≤t) (h2:fw.cl=c)=>hy ⟨a,rfl,h1,h2,fun d hd=>by cases hd⟩
    have hno2:=fun(_:Unit) (h1:¬(a≤t∧fw.cl=c))=>hno fun⟨a',e,h2,h3,_⟩=>h1 ⟨by injection e with e;omega,h3⟩
    clear hy hno
    (repeat' (conv=>whnf);first|refine⟨x.f.toNat,_,by omega,hfg,?_⟩|refine⟨i,_,rfl,hg,?_⟩|refine aC ?_ ?_<;>intro<;>try omega|refine z2_T1 ?_|(refine aK [] cH ?_)|(refine aK [] cA ?_)|(refine aK [] cD ?_)|fail);all_goals try (conv=>whnf)
    all_goals first
     |exact⟨i+1,[0,1],by omega,by omega,by rw [hy2 () (by omega) (by omega)];(exact aL)⟩
     |exact⟨i+1,[0,1],by omega,by omega,by rw [hno2 () (by omega)];(exact aL)⟩
     |trace_state
   |some d=>
    simp only [arrT]at cD
    have hy2:=fun(_:Unit) (h1:a≤t) (h2:fw.cl=c) (h3:t≤d)=>hy ⟨a,rfl,h1,h2,fun d' hd=>by injection hd with hd;omega⟩
    have hno2:=fun(_:Unit) (h1:¬(a≤t∧fw.cl=c∧t≤d))=>hno fun⟨a',e,h2,h3,h4⟩=>h1 ⟨by injection e with e;omega,h3,h4 d rfl⟩
    clear hy hno
    (repeat' (conv=>whnf);first|refine⟨x.f.toNat,_,by omega,hfg,?_⟩|refine⟨i,_,rfl,hg,?_⟩|refine aC ?_ ?_<;>intro<;>try omega|refine z2_T1 ?_|(refine aK [] cH ?_)|(refine aK [] cA ?_)|(refine aK [] cD ?_)|fail);all_goals try (conv=>whnf)
    all_goals first
     |exact⟨i+1,[0,1],by omega,by omega,by rw [hy2 () (by omega) (by omega) (by omega)];(exact aL)⟩
     |exact⟨i+1,[0,1],by omega,by omega,by rw [hno2 () (by omega)];(exact aL)⟩
     |trace_state
 ·obtain rfl:i=p.length:=by omega
  (repeat' (conv=>whnf);first|refine aC ?_ ?_<;>intro<;>try omega|refine z2_T1 ?_|fail);all_goals try (conv=>whnf)
  exact⟨rfl,rfl⟩
end
section
open Go.Sx Go.Cv
structure Bd (vs:List Int) (p:Nat) (q:Int):Prop where
 p1:1≤p
 pn:p≤vs.length
 n:vs.length≤2000
 q0:0≤q
 q1:q≤1099511627776
 v:∀j,0≤vs.getD j 0∧vs.getD j 0≤4611686018427387904
theorem at_idx {n p t:Nat} (ht:n≤t) (hp:1≤p) (hp2:p≤n):((t-n)/p+1)*p≤t∧t-((t-n)/p+1)*p<n∧n-p≤t-((t-n)/p+1)*p:=by
 have h1:=Nat.div_add_mod (t-n) p
 have h2:=Nat.mod_lt (t-n) hp
 have h3:((t-n)/p+1)*p=p*((t-n)/p)+p:=by rw [Nat.add_mul,Nat.one_mul,Nat.mul_comm]
 omega
theorem mul_bd {a b A B:Int} (ha:0≤a) (ha2:a≤A) (hb:0≤b) (hb2:b≤B):0≤a*b∧a*b≤A*B:=
 ⟨Int.mul_nonneg ha hb,Int.mul_le_mul ha2 hb2 hb (by omega)⟩
theorem At_ok (vs:List Int) (p:Nat) (q t:Int) (hb:Bd vs p q) (ht:0≤t) (ht2:t≤1048576):
  Ctr Tryz.prog 143 [crv vs p q,i64 t] [] (fun r o=>o=[]∧r=i64 (val vs p q t.toNat)):=by
 obtain⟨p1,pn,hn,q0,q1,hv⟩:=hb
 obtain⟨t,rfl⟩:=Int.eq_ofNat_of_zero_le ht
 simp only [Int.toNat_natCast]
 refine fI 0 Tryz.func143 ?_
 (repeat' (conv=>whnf);first|refine aC ?_ ?_<;>intro _|refine z2_T1 ?_|fail);all_goals try (conv=>whnf)
 all_goals try (simp only [ints_len]at*)
 all_goals try omega
 ·have hle:vs.length≤t:=by omega
  have e1:((t:Int)-vs.length).tdiv p=((t-vs.length)/p:Nat):=by
   rw [Int.tdiv_eq_ediv_of_nonneg (by omega)]
   push_cast [Int.ofNat_sub hle];rfl
  have hx:=at_idx hle p1 pn
  have hd:(t-vs.length)/p≤t-vs.length:=Nat.div_le_self _ _
  have hval:val vs p q t=if vs.getD (t-((t-vs.length)/p+1)*p) 0=INF then INF else vs.getD (t-((t-vs.length)/p+1)*p) 0+((t-vs.length)/p+1:Nat)*q:=by
   simp only [val];rw [if_neg (by omega)]
  rw [hval,e1]
  generalize (t-vs.length)/p=k at*
  have e3:((k:Int)+1)*(p:Int)=((k+1)*p:Nat):=by push_cast;rfl
  have hkq:=mul_bd (a:=(k:Int)+1) (b:=q) (A:=1048577) (B:=1099511627776) (by omega) (by omega) (by omega) (by omega)
  have hv1:=hv ((t:Int)-((k:Int)+1)*p).toNat
  refine⟨by omega,?_⟩
  (repeat' (conv=>whnf);first|refine aC ?_ ?_<;>intro _|refine z2_T1 ?_|fail);all_goals try (conv=>whnf)
  all_goals rw [show((t:Int)-((k:Int)+1)*p).toNat =t-(k+1)*p by omega]at*
  ·exact⟨rfl,by simp only [oneS];rw [if_pos (by assumption)]⟩
  ·exact⟨rfl,by simp only [oneS];rw [if_neg (by assumption)];push_cast;rfl⟩
 ·exact⟨trivial,by simp only [oneS];rw [val_lt (by omega)]⟩
end
section
open Go.Sx Go.Cv
theorem val_bd {vs:List Int} {p:Nat} {q:Int} (hb:Bd vs p q) {t:Nat} (ht:t≤1048576):0≤val vs p q t∧val vs p q t≤6000000000000000000:=by
 obtain⟨p1,pn,hn,q0,q1,hv⟩:=hb
 by_cases h:t<vs.length
 ·rw [val_lt h];have:=hv t;omega
 ·simp only [val]
  rw [if_neg h]
  have hd:(t-vs.length)/p≤t-vs.length:=Nat.div_le_self _ _
  generalize (t-vs.length)/p=k at*
  have hkq:=mul_bd (a:=((k+1:Nat):Int)) (b:=q) (A:=1048577) (B:=1099511627776) (by omega) (by omega) (by omega) (by omega)
  have hv1:=hv (t-(k+1)*p)
  split<;>omega
theorem z2_R2 {G H:Prop} (k:H) (h:H→G:=by first|exact fun r=>aS r|exact fun r=>aG r|exact fun r=>aD r|exact fun r=>aH r|exact fun r=>aP_T1 r|exact fun r=>aI r|exact fun r=>aJ r|exact fun r=>aW (.qs [0,1,2,3,5,6,8,9,10,11,12,13,14] (.l 4 [13,9,5] (.l 7 [13,9] (.qs [15,16] .nil) .no) .no)) r):G:=h k
theorem periodic_ok (vs:List Int) (P:Nat) (Q:Int) (s p:Nat) (hb:Bd vs P Q) (hp:1≤p) (hpP:p≤P) (hs:s≤10000):
  Ctr Tryz.prog 199 [crv vs P Q,i64 s,i64 p] [] (fun r o=>o=[]∧r= .bp (Fits (val vs P Q) s P Q p)):=by
 refine Ctr.imp ?_
 have p1:=hb.p1
 have pn:=hb.pn
 have hn:=hb.n
 have q0:=hb.q0
 have q1:=hb.q1
 have hQp:=mul_bd (a:=Q) (b:=(p:Int)) (A:=1099511627776) (B:=2000) (by omega) (by omega) (by omega) (by omega)
 have hd:=tdiv_bd (a:=Q*p) (b:=(P:Int)) (by omega) (by omega)
 have hm:=tmod_bd (a:=Q*p) (b:=(P:Int)) (by omega) (by omega)
 have hm2:(P:Int).tmod p=((P%p:Nat):Int):=by rw [Int.tmod_eq_emod_of_nonneg (by omega)];rfl
 refine fI 0 Tryz.func199 ?_
 (repeat' (conv=>whnf);first|refine aC ?_ ?_<;>intro _|refine z2_T1 ?_|fail);all_goals try (conv=>whnf)
 refine⟨by omega,?_⟩
 rw [hm2]
 (repeat' (conv=>whnf);first|refine aC ?_ ?_<;>intro _|refine z2_T1 ?_|fail);all_goals try (conv=>whnf)
 ·exact⟨rfl,Imp.bl ⟨fun h=>(by cases h),fun h=>by have:=h.1;omega⟩⟩
 refine⟨by omega,?_⟩
 rw [hm.1]
 (repeat' (conv=>whnf);first|refine aC ?_ ?_<;>intro _|refine z2_T1 ?_|fail);all_goals try (conv=>whnf)
 ·exact⟨rfl,Imp.bl ⟨fun h=>(by cases h),fun h=>by have:=h.2.1;omega⟩⟩
 refine LoopOb.mk (Y:=Nat) (st:=fun j=>⟨[(1,i64 s),(2,i64 p),(3, .ptr 0 0),(7,i64 j)],[.box [.psl 1 (ints vs),i64 P,i64 Q]]⟩)
  (inv:=fun j=>s≤j∧j≤s+P∧∀t,s≤t→t<j→val vs P Q (t+p)=val vs P Q t+Q*p/P) (fun j=>s+P-j) s [0] ⟨by omega,by omega,fun t h1 h2=>by omega⟩ (by(exact aL)) ?_
 rintro j ⟨h1,h2,h3⟩
 (repeat' (conv=>whnf);first|refine aC ?_ ?_<;>intro _|refine z2_R2 ?_|fail);all_goals try (conv=>whnf)
 ·refine⟨by omega,?_⟩
  rw [hd.1]
  (repeat' (conv=>whnf);first|refine aC ?_ ?_<;>intro _|refine z2_T1 ?_|fail);all_goals try (conv=>whnf)
  refine aM [] (At_ok _ _ _ _ hb (by omega) (by omega)) rfl rfl ?_
  rintro _ _ ⟨rfl,rfl⟩
  (repeat' (conv=>whnf);first|refine aC ?_ ?_<;>intro _|refine z2_T1 ?_|fail);all_goals try (conv=>whnf)
  refine aM [] (At_ok _ _ _ _ hb (by omega) (by omega)) rfl rfl ?_
  rintro _ _ ⟨rfl,rfl⟩
  rw [show((j:Int)+p).toNat =j+p by omega]
  simp only [Int.toNat_natCast]
  have b1:=val_bd hb (t:=j) (by omega)
  have b2:=val_bd hb (t:=j+p) (by omega)
  (repeat' (conv=>whnf);first|refine aC ?_ ?_<;>intro _|refine z2_T1 ?_|fail);all_goals try (conv=>whnf)
  ·exact⟨rfl,Imp.bl ⟨fun h=>(by cases h),fun h=>absurd (h.2.2 j h1 (by omega)) (by assumption)⟩⟩
  ·refine⟨j+1,[0],⟨by omega,by omega,fun t ht1 ht2=>?_⟩,by omega,by(exact aL)⟩
   by_cases htj:t=j
   ·subst htj
    exact Classical.not_not.1 (by assumption)
   ·exact h3 t ht1 (by omega)
 ·exact⟨rfl,Imp.bl ⟨fun _=>⟨by omega,by omega,fun t ht1 ht2=>h3 t ht1 (by omega)⟩,fun _=>rfl⟩⟩
end
end Go.Proofs.YtaomhdljcdadaaaGreat
