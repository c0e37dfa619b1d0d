/- Lemmas of this seat. Conditions: as stated. -/
import Derived.Test.YtjhmjiimpmmnhaaGreatR3
import Derived.Test.YtjhmjiimpmmnhaaGreatPl
import Derived.Test.YtjhmjiimpmmnhaaGreatS1
import Derived.Test.YtjhmjiimpmmnhaaGreatN6
import Derived.Test.YtjhmjiimpmmnhaaGreatSo7
import Derived.Test.YtjhmjiimpmmnhaaGreatMn
import Derived.Test.YtjhmjiimpmmnhaaGreatSxR
set_option linter.unusedVariables false
set_option linter.unusedSimpArgs false
set_option maxHeartbeats 2000000
set_option maxRecDepth 4000
namespace Go.Proofs.YtjhmjiimpmmnhaaGreat
section
open Go.Sx Go.Cv
abbrev crv3 (A:List Int×Int×Int):SV:=crv A.1 A.2.1 A.2.2
def PairP (vs:List Int) (p q:Int) (ws:List Int) (p' q':Int) (A B:List Int×Int×Int) (l e:Int):Prop:=
 ∃ea eb,NormP vs p q A.1 A.2.1 A.2.2 ea∧NormP ws p' q' B.1 B.2.1 B.2.2 eb∧
  (((ea≠0∨eb≠0)∧l=0∧e=1)∨(ea=0∧eb=0∧(120<(Nat.lcm A.2.1.toNat B.2.1.toNat:Int)∧l=0∧e=3∨(Nat.lcm A.2.1.toNat B.2.1.toNat:Int)≤120∧l=(Nat.lcm A.2.1.toNat B.2.1.toNat:Int)∧e=0)))
theorem norm_ok {vs p q vs' p' q'} (h:NormP vs p q vs' p' q' 0):∃p0 p1:Nat,p=p0∧p'=p1∧VF vs p0 q∧NF (val vs p0 q) vs' p1 q'∧VF vs' p1 q':=by
 rcases h with⟨_,p0,p1,rfl,rfl,h1,h2⟩|⟨_,_,_,_,h⟩
 ·exact⟨p0,p1,rfl,rfl,h1,h2,(h2.vf h1).1⟩
 ·cases h
theorem z2_R6 {G H:Prop} (k:H) (h:H→G:=by first|exact fun r=>aS r|exact fun r=>aG r|exact fun r=>aD r|exact fun r=>aH r|exact fun r=>aP_R1 r|exact fun r=>aI r|exact fun r=>aJ r|exact fun r=>aW (.qs [0,1] (.l 2 [1] (.l 3 [] (.qs [4,5] .nil) .no) .no)) r|exact fun r=>aW (.qs [0,1] (.l 2 [1] (.l 3 [] (.qs [4,5] .nil) .no) .no)) r|exact fun r=>aW (.qs [0,1,2] (.l 3 [1] (.l 4 [] (.qs [5,6] .nil) .no) .no)) r):G:=h k
theorem Pair_ok (vs:List Int) (p q:Int) (ws:List Int) (p' q':Int):
  Ctr Tryz.prog 150 [crv vs p q,crv ws p' q'] [] (fun r o=>∃x:(List Int×Int×Int)×(List Int×Int×Int)×Int×Int,PairP vs p q ws p' q' x.1 x.2.1 x.2.2.1 x.2.2.2∧o=[]∧r= .tup [crv3 x.1,crv3 x.2.1,i64 x.2.2.1,i64 x.2.2.2]):=by
 refine Ctr.impE ?_
 refine fI 0 Tryz.func150 ?_
 (repeat' (conv=>whnf);first|refine aC ?_ ?_<;>intro _|refine z1_R1 ?_|fail);all_goals try (conv=>whnf)
 refine aM [] (Normal_ok vs p q) rfl rfl ?_
 rintro _ _ ⟨⟨av,ap,aq,ea⟩,hA,rfl,rfl⟩
 simp only at hA
 (repeat' (conv=>whnf);first|refine aC ?_ ?_<;>intro _|refine z1_R1 ?_|fail);all_goals try (conv=>whnf)
 refine aM [] (Normal_ok ws p' q') rfl rfl ?_
 rintro _ _ ⟨⟨bv,bp,bq,eb⟩,hB,rfl,rfl⟩
 simp only at hB
 (repeat' (conv=>whnf);first|refine aC ?_ ?_<;>intro _|refine z2_R6 ?_|fail);all_goals try (conv=>whnf)
 ·have he:ea≠0:=by assumption
  exact⟨((av,ap,aq),(bv,bp,bq),0,1),⟨ea,eb,hA,hB, .inl ⟨.inl he,rfl,rfl⟩⟩,rfl,Imp.refl _⟩
 ·have he:eb≠0:=by assumption
  exact⟨((av,ap,aq),(bv,bp,bq),0,1),⟨ea,eb,hA,hB, .inl ⟨.inr he,rfl,rfl⟩⟩,rfl,Imp.refl _⟩
 ·have h1:ea=0:=Classical.not_not.1 (by assumption)
  have h2:eb=0:=Classical.not_not.1 (by assumption)
  subst h1
  subst h2
  obtain⟨_,pa,_,rfl,_,_,va⟩:=norm_ok hA
  obtain⟨_,pb,_,rfl,_,_,vb⟩:=norm_ok hB
  have a1:=va.p1
  have a2:=va.p2
  have b1:=vb.p1
  have b2:=vb.p2
  refine aK [] (Lcm_ok pa pb (by omega) (by omega) (by omega) (by omega)) ?_
  (repeat' (conv=>whnf);first|refine aC ?_ ?_<;>intro _|refine z2_R6 ?_|fail);all_goals try (conv=>whnf)
  ·have h:(120:Int)<Nat.lcm pa pb:=by assumption
   exact⟨((av,pa,aq),(bv,pb,bq),0,3),⟨0,0,hA,hB, .inr ⟨rfl,rfl, .inl ⟨h,rfl,rfl⟩⟩⟩,rfl,Imp.refl _⟩
  ·have h:¬(120:Int)<Nat.lcm pa pb:=by assumption
   exact⟨((av,pa,aq),(bv,pb,bq),(Nat.lcm pa pb:Int),0),⟨0,0,hA,hB, .inr ⟨rfl,rfl, .inr ⟨by simp only [Int.toNat_natCast];omega,rfl,rfl⟩⟩⟩,rfl,Imp.refl _⟩
end
section
open Go.Sx Go.Cv
def rowsAt (F:Nat→Int) (t N:Nat):List Int:=vals F t++List.replicate (N-t) 0
theorem rowsAt_len (F:Nat→Int) {t N:Nat} (h:t≤N):(rowsAt F t N).length =N:=by simp [rowsAt,vals_len];omega
theorem rowsAt_set (F:Nat→Int) {t N:Nat} (h:t<N):(ints (rowsAt F t N)).set t [i64 (F t)]=ints (rowsAt F (t+1) N):=by
 have e:N-t=(N-(t+1))+1:=by omega
 simp only [rowsAt,e,List.replicate_succ]
 simp only [ints,List.map_append,List.map_cons,vals_succ]
 rw [List.set_append_right _ _ (by simp [vals])]
 simp [vals]
theorem rowsAt_full (F:Nat→Int) (N:Nat):rowsAt F N N=vals F N:=by simp [rowsAt]
theorem rowsAt_zero (F:Nat→Int) (N:Nat):ints (rowsAt F 0 N)=List.replicate N [i64 0]:=by simp [rowsAt,vals,ints]
end
section
open Go.Sx Go.Cv
theorem WAt_ok (vs:List Int) (p:Nat) (q t:Int) (hb:Bd vs p q) (ht:0≤t) (ht2:t≤1048576):
  Ctr Tryz.prog 93 [crv vs p q,i64 t] [] (fun r o=>o=[]∧r=i64 (val vs p q t.toNat)):=by
 obtain⟨p1,pn,hn,q0,q1,hv⟩:=hb
 obtain⟨t,rfl⟩:=Int.eq_ofNat_of_zero_le ht
 simp only [Int.toNat_natCast]
 refine fI 0 Tryz.func93 ?_
 (repeat' (conv=>whnf);first|refine aC ?_ ?_<;>intro _|refine z1_R1 ?_|fail);all_goals try (conv=>whnf)
 all_goals try (simp only [ints_len]at*)
 all_goals try omega
 ·exact⟨trivial,by simp only [oneS];rw [val_lt (by omega)]⟩
 ·have hle:vs.length≤t:=by omega
  have e1:((t:Int)-vs.length).tdiv p=((t-vs.length)/p:Nat):=by
   rw [Int.tdiv_eq_ediv_of_nonneg (by omega)]
   push_cast [Int.ofNat_sub hle];rfl
  have hx:=at_idx hle p1 pn
  have hd:(t-vs.length)/p≤t-vs.length:=Nat.div_le_self _ _
  have hval:val vs p q t=if vs.getD (t-((t-vs.length)/p+1)*p) 0=INF then INF else vs.getD (t-((t-vs.length)/p+1)*p) 0+((t-vs.length)/p+1:Nat)*q:=by
   simp only [val];rw [if_neg (by omega)]
  rw [hval,e1]
  generalize (t-vs.length)/p=k at*
  have e3:((k:Int)+1)*(p:Int)=((k+1)*p:Nat):=by push_cast;rfl
  have hkq:=mul_bd (a:=(k:Int)+1) (b:=q) (A:=1048577) (B:=1099511627776) (by omega) (by omega) (by omega) (by omega)
  have hv1:=hv ((t:Int)-((k:Int)+1)*p).toNat
  refine⟨by omega,?_⟩
  (repeat' (conv=>whnf);first|refine aC ?_ ?_<;>intro _|refine z1_R1 ?_|fail);all_goals try (conv=>whnf)
  all_goals rw [show((t:Int)-((k:Int)+1)*p).toNat =t-(k+1)*p by omega]at*
  ·exact⟨rfl,by simp only [oneS];rw [if_pos (by assumption)];congr 1⟩
  ·exact⟨rfl,by simp only [oneS];rw [if_neg (by assumption)];push_cast;rfl⟩
theorem CValid_ok (vs:List Int) (p i:Int) (hlv:vs.length≤140737488355328):
  Ctr Tryz.prog 39 [crv vs p i] [] (fun r o=>o=[]∧r= .bp (ValidP vs p i)):=by
 refine Ctr.imp ?_
 refine fI 0 Tryz.func39 ?_
 (repeat' (conv=>whnf);first|refine aC ?_ ?_<;>intro _|refine z2_Vc ?_|fail);all_goals try (conv=>whnf)
 all_goals try (refine And.intro rfl (Imp.bl ⟨fun h=>(by cases h),fun h=>?_⟩);simp only [ints_len]at*;simp only [ValidP]at h;omega)
 rename_i h1 h2 h3 h4 h5 h6 h7
 simp only [ints_len]at*
 have bd:∀j,j<vs.length→(∀k<j+1,vs.getD k 0=INF∨0≤vs.getD k 0∧vs.getD k 0≤1073741824)→True:=fun _ _ _=>trivial
 refine LoopOb.mk (Y:=Nat) (st:=fun j=>⟨[(45,i64 j),(44,i64 vs.length),(43, .psl 1 (ints vs)),(4,i64 (if j=0 then 0 else vs.getD (j-1) 0)),(3,i64 vs.length),(1, .ptr 0 0)],[.box [.psl 1 (ints vs), .num .i64 p, .num .i64 i]]⟩)
  (inv:=fun j=>j≤vs.length∧(∀k<j,vs.getD k 0=4611686018427387904∨0≤vs.getD k 0∧vs.getD k 0≤1073741824)∧(∀k,k+1<j→vs.getD k 0≤vs.getD (k+1) 0)) (fun j=>vs.length-j) 0 [0] ⟨by omega,fun k hk=>by omega,fun k hk=>by omega⟩ (by(exact aL)) ?_
 rintro j ⟨hj,hv,hm⟩
 have hlast:j≠0→vs.getD (j-1) 0=4611686018427387904∨0≤vs.getD (j-1) 0∧vs.getD (j-1) 0≤1073741824:=fun h=>hv (j-1) (by omega)
 (repeat' (conv=>whnf);first|refine aC ?_ ?_<;>intro _|refine z2_Vc ?_|fail);all_goals try (conv=>whnf)
 all_goals try (
  refine And.intro rfl (Imp.bl ⟨fun h=>(by cases h),fun h=>?_⟩)
  obtain⟨_,_,_,_,_,_,_,q1,q2,q3,_⟩:=h
  have q1:=q1 j
  have q2:=q2 (j-1)
  rcases Nat.eq_zero_or_pos j with h0|h0
  ·subst h0;simp only [if_true,Nat.zero_sub]at*;omega
  ·try rw [if_neg (show¬j=0 by omega)]at*
   rw [show j-1+1=j by omega]at q2
   omega)
 all_goals try (
  refine⟨j+1,[0],⟨by omega,fun k hk=>?_,fun k hk=>?_⟩,by omega,?_⟩
  ·by_cases hkj:k=j
   ·subst hkj
    rcases Nat.eq_zero_or_pos k with h0|h0
    ·subst h0;simp only [if_true]at*;omega
    ·rw [if_neg (show¬k=0 by omega)]at*;omega
   ·exact hv k (by omega)
  ·by_cases hkj:k+1=j
   ·subst hkj;rw [if_neg (show¬k+1=0 by omega)]at*;simp only [Nat.add_sub_cancel]at*;omega
   ·exact hm k (by omega)
  ·refine Le.mk (by kernel_rfl) ?_ ?_<;>repeat' (first|exact True.intro|refine And.intro ?_ ?_|exact Imp.refl _|exact Imp.any _|exact Imp.num (by omega)|exact rfl|exact Imp.num (by simp)))
 all_goals have hjl:j=vs.length:=by omega
 all_goals subst hjl
 all_goals rw [if_neg (show¬vs.length=0 by omega)]at*
 ·have hx2:vs.getD (vs.length-1) 0=4611686018427387904:=by assumption
  have hp:p=1:=by assumption
  exact⟨rfl,Imp.bp ⟨fun h=>⟨by omega,by omega,by omega,by omega,by omega,by omega,by omega,hv,hm,fun _=>⟨hp,h⟩,fun h'=>absurd hx2 h'⟩,fun h=>by obtain⟨_,_,_,_,_,_,_,_,_,q3,_⟩:=h;exact(q3 hx2).2⟩⟩
 ·have hx2:vs.getD (vs.length-1) 0=4611686018427387904:=by assumption
  refine⟨rfl,Imp.bl ⟨fun h=>(by cases h),fun h=>?_⟩⟩
  obtain⟨_,_,_,_,_,_,_,_,_,q3,_⟩:=h
  have:=(q3 hx2).1
  omega
 ·have hx2:¬vs.getD (vs.length-1) 0=4611686018427387904:=by assumption
  have hq:=hv (vs.length-p).toNat (by omega)
  refine ArOb.fits (by omega) ?_
  (repeat' (conv=>whnf);first|refine aC ?_ ?_<;>intro _|refine z2_Vc ?_|fail);all_goals try (conv=>whnf)
  rw [show(vs.length-p:Int).toNat =vs.length-p.toNat by omega]at*
  exact⟨rfl,Imp.bp ⟨fun h=>⟨by omega,by omega,by omega,by omega,by omega,by omega,by omega,hv,hm,fun h'=>absurd h' hx2,fun _=>h⟩,fun h=>by obtain⟨_,_,_,_,_,_,_,_,_,_,q4⟩:=h;exact q4 hx2⟩⟩
end
section
open Go.Sx Go.Np Go.Cv Go.Tp
abbrev dls (d:List (List Int)):List (List SV):=d.map fun r=>[.psl 1 (ints r)]
theorem dls_len (d:List (List Int)):(dls d).length =d.length:=by simp [dls]
theorem dls_get {d:List (List Int)} {i:Nat} (h:i<d.length):(dls d)[i]? =some [.psl 1 (ints (d.getD i []))]:=by simp [dls,h]
structure DL (d:List (List Int)):Prop where
 l:d.length≤9223372036854775807
 r:∀i,(d.getD i []).length ≤9223372036854775807
end
section
open Go.Sx Go.Pk Go.Mc Go.Np Go.Tp
def endO (n:Nt) (d:List (List Int)) (f:Int):Option Int:=if 0≤f∧f<n.fl.length then match bef d (n.fl.getD f.toNat fl0) (n.fl.getD f.toNat fl0).rt.length with
 |none=>none
 |some s=>some ((n.fl.getD f.toNat fl0).rt.length -1+(s:Int))
 else none
end
section
open Go.Sx Go.Cv
structure Prep (vs:List Int) (p q:Int) (ws:List Int) (p' q':Int) (a b:C3):Prop where
 f:∃p0:Nat,p=p0∧VF vs p0 q∧NF (val vs p0 q) a.1 a.2.1 a.2.2
 g:∃p0:Nat,p'=p0∧VF ws p0 q'∧NF (val ws p0 q') b.1 b.2.1 b.2.2
 va:VC a
 vb:VC b
def PrepE (vs:List Int) (p q:Int) (ws:List Int) (p' q':Int) (e:Int):Prop:=
 (e=1∧(¬ValidP vs p q∨¬ValidP ws p' q'))∨(e=3∧∃a b,Prep vs p q ws p' q' a b∧120<com a b)
theorem normP_ne {vs p q x} (h:NormP vs p q x.1 x.2.1 x.2.2.1 x.2.2.2) (he:x.2.2.2≠0):¬ValidP vs p q∧x=([],0,0,1):=by
 obtain⟨x1,x2,x3,x4⟩:=x
 rcases h with⟨h,_⟩|⟨h1,h2,h3,h4,h5⟩
 ·exact absurd h he
 ·simp only at h2 h3 h4 h5;subst h2 h3 h4 h5;exact⟨h1,rfl⟩
end
section
open Go.Sx Go.Cv
def flatF (v:Int) (t:Nat):Int:=if t=0 then 0 else v
theorem flatF_per (v:Int):Per (flatF v) 1 1 0:=fun t ht=>by unfold flatF;rw [if_neg (by omega),if_neg (by omega)];omega
theorem flatF_zero:flatF 0=fun _=>0:=funext fun t=>by unfold flatF;split<;>rfl
def FlatQ (v:Int) (x:List Int×Int×Int×Int):Prop:=
 (v<0∧x=([],0,0,2))∨(0≤v∧v≤1073741824∧MkP (flatF v) x)∨(1073741824<v∧x=([],0,0,3))
end
section
open Go.Sx Go.Cv
theorem pair_prep {vs p q ws p' q' A B l e} (h:PairP vs p q ws p' q' A B l e):
  (PrepE vs p q ws p' q' e∧e≠0)∨(e=0∧∃a b:C3,Prep vs p q ws p' q' a b∧com a b≤120∧A=(a.1,(a.2.1:Int),a.2.2)∧B=(b.1,(b.2.1:Int),b.2.2)∧l=com a b):=by
 obtain⟨ea,eb,hA,hB,h⟩:=h
 obtain⟨A1,A2,A3⟩:=A
 obtain⟨B1,B2,B3⟩:=B
 rcases h with⟨h1,rfl,rfl⟩|⟨rfl,rfl,h⟩
 ·refine .inl ⟨.inl ⟨rfl,?_⟩,by omega⟩
  rcases h1 with h1|h1
  ·exact .inl (normP_ne (x:=(A1,A2,A3,ea)) hA h1).1
  ·exact .inr (normP_ne (x:=(B1,B2,B3,eb)) hB h1).1
 ·obtain⟨p0,pa,rfl,hpa,vf,nf,va⟩:=norm_ok hA
  obtain⟨p0',pb,rfl,hpb,vg,ng,vb⟩:=norm_ok hB
  simp only at hpa hpb nf ng va vb h
  subst hpa
  subst hpb
  have hP:Prep vs p0 q ws p0' q' (A1,pa,A3) (B1,pb,B3):=⟨⟨p0,rfl,vf,nf⟩,⟨p0',rfl,vg,ng⟩,va,vb⟩
  simp only [Int.toNat_natCast]at h
  rcases h with⟨h1,rfl,rfl⟩|⟨h1,rfl,rfl⟩
  ·exact .inl ⟨.inr ⟨rfl,_,_,hP,by unfold com;simp only;omega⟩,by omega⟩
  ·exact .inr ⟨rfl,_,_,hP,by unfold com;simp only;omega,rfl,rfl,rfl⟩
theorem bd_vals {F:Nat→Int} {N P:Nat} {Q:Int} (hF:∀t,t<N→0≤F t∧F t≤INF) (h1:1≤P) (h2:P≤N) (h3:N≤2000) (h4:0≤Q) (h5:Q≤1099511627776):Bd (vals F N) P Q:=
 ⟨h1,by rw [vals_len];exact h2,by rw [vals_len];exact h3,h4,h5,fun j=>by
  by_cases hj:j<N
  ·rw [vals_get hj];exact hF j hj
  ·rw [List.getD_eq_getElem?_getD,List.getElem?_eq_none (by rw [vals_len];omega)];simp⟩
theorem RFin_ok (a:C3) (ha:VC a):Ctr Tryz.prog 101 [crv a.1 a.2.1 a.2.2] [] (fun r o=>o=[]∧r= .bp (FinC a)):=
 (Finite_ok a.1 a.2.1 a.2.2).mono (fun r o ⟨h1,h2⟩=>⟨h1,by rw [h2];congr 1;exact propext ⟨fun h=>h.2,fun h=>⟨ha.valid,h⟩⟩⟩)
end
section
open Go.Sx Go.Cv
theorem flatP_mk {v:Int} {x:List Int×Int×Int×Int} (h:FlatP v x):FlatQ v x:=by
 rcases h with⟨h1,rfl⟩|⟨h1,h2⟩
 ·exact .inl ⟨h1,rfl⟩
 ·by_cases h3:v≤1073741824
  ·rw [show min v 1073741825=v by omega]at h2
   refine .inr (.inl ⟨h1,h3,madeP_mk (by omega) (by simp) (fun t ht=>?_) (fun m hm h=>?_) (fun _=>flatF_per v) h2⟩)
   ·match t,ht with
    |0,_=>rfl
    |1,_=>rfl
   ·exfalso
    unfold flatF at h;split at h<;>(simp only [INF]at h;omega)
  ·rw [show min v 1073741825=1073741825 by omega]at h2
   refine .inr (.inr ⟨by omega,?_⟩)
   have hm:=madeP_mk (F:=flatF 1073741825) (by omega) (by simp) (fun t ht=>by
    match t,ht with
    |0,_=>rfl
    |1,_=>rfl) (fun m hm h=>by exfalso;unfold flatF at h;split at h<;>(simp only [INF]at h;omega)) (fun _=>flatF_per _) h2
   rcases hm with⟨vs,p,q,hnf,hvf,_⟩|⟨_,h⟩
   ·exfalso
    have e:=hvf.sound hnf 1
    obtain⟨s,p1,hper,_,_,rfl⟩:=hnf
    by_cases hlt:1<s+p
    ·rw [val_lt (by rw [vals_len];exact hlt)]at e
     have h4:=hvf.v 1 (by rw [vals_len];exact hlt)
     rw [e]at h4
     simp [flatF,INF]at h4
    ·have hs:s=0:=by omega
     have hp:p=1:=by omega
     subst hs hp
     have h5:=hper 0 (by omega)
     have h6:=hper 1 (by omega)
     simp [flatF]at h5 h6
     omega
   ·exact h
theorem RFlat_ok (v:Int):Ctr Tryz.prog 181 [i64 v] [] (fun r o=>∃x:List Int×Int×Int×Int,FlatQ v x∧o=[]∧r=crvE x):=
 (Flat_ok v).mono (fun r o ⟨x,h1,h2,h3⟩=>⟨x,flatP_mk h1,h2,h3⟩)
theorem flatQ_zero {x} (hx:FlatQ 0 x):MkP (fun _=>0) x:=by
 rw [←flatF_zero]
 rcases hx with⟨h,_⟩|⟨_,_,h⟩|⟨h,_⟩
 ·omega
 ·exact h
 ·omega
end
section
open Go.Sx Go.Cv
theorem vc_bd {a:C3} (h:VC a) {t:Nat} (ht:t≤1048576):0≤cv a t∧cv a t≤6000000000000000000:=val_bd (bd_of h) ht
theorem rAt_ok (a:C3) (t:Nat) (ha:VC a) (ht:t≤1048576):Ctr Tryz.prog 94 [crv a.1 a.2.1 a.2.2,i64 t] [] (fun r o=>o=[]∧r=i64 (cv a t)):=
 (At_ok a.1 a.2.1 a.2.2 t (bd_of ha) (by omega) (by omega)).mono (fun r o ⟨h1,h2⟩=>⟨h1,by rw [h2];simp [cv]⟩)
theorem RFinV_ok (a:C3) (ha:VC a):Ctr Tryz.prog 101 [crv a.1 a.2.1 a.2.2] [] (fun r o=>o=[]∧r= .bp (FinC a)):=RFin_ok a ha
theorem RVal_ok (a:C3) (ha:VC a):Ctr Tryz.prog 41 [crv a.1 a.2.1 a.2.2] [] (fun r o=>o=[]∧r= .bl true):=
 Ctr.imp ((Valid_ok a.1 a.2.1 a.2.2).mono (fun r o ⟨h1,h2⟩=>⟨h1,by rw [h2];exact Imp.bpl ⟨fun _=>rfl,fun _=>ha.valid⟩⟩))
end
end Go.Proofs.YtjhmjiimpmmnhaaGreat
