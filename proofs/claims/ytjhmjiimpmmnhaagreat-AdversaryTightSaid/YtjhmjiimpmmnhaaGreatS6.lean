/- Lemmas of this seat. Conditions: as stated. -/
import Derived.Test.YtjhmjiimpmmnhaaGreatT1
import Derived.Test.YtjhmjiimpmmnhaaGreatMn
import Derived.Test.YtjhmjiimpmmnhaaGreatN6
import Derived.Test.YtjhmjiimpmmnhaaGreatN8
set_option linter.unusedVariables false
set_option linter.unusedSimpArgs false
set_option maxHeartbeats 2000000
set_option maxRecDepth 4000
namespace Go.Proofs.YtjhmjiimpmmnhaaGreat
section
open Go.Sx Go.Pk Go.Mc Go.Np
abbrev nbx (n:Nt):Chunk:= .box [.psl 1 (strs n.nm), .psl 5 (lns n.ln), .psl 8 (fls n.fl)]
theorem sck_steps {n:Nt} {p:List Pk} (h0:chkN n=0) (h1:¬60<p.length) {i:Nat} (hi:i<p.length) (hv:sckN n p i=0):
  (bdP n (p.getD i pk0)→sck n p=2)∧(¬bdP n (p.getD i pk0)→(p.getD i pk0).t <lst p i→sck n p=7)∧(¬bdP n (p.getD i pk0)→¬(p.getD i pk0).t <lst p i→sckN n p (i+1)=0):=by
 have hs0:sckN n p (i+1)=if bdP n (p.getD i pk0)then 2 else if(p.getD i pk0).t <lst p i then 7 else 0:=by simp only [sckN];rw [if_neg (by omega)]
 have hE:sckN n p (i+1)≠0→sck n p=sckN n p (i+1):=fun h=>by
  unfold sck;rw [if_neg (by omega),if_neg h1];exact sckN_ge (by omega) h
 refine⟨fun h=>?_,fun h h2=>?_,fun h h2=>?_⟩
 ·rw [if_pos h]at hs0;rw [hE (by omega),hs0]
 ·rw [if_neg h,if_pos h2]at hs0;rw [hE (by omega),hs0]
 ·rw [if_neg h,if_neg h2]at hs0;exact hs0
theorem SChk_ok (n:Nt) (hn:NL n) (p:List Pk) (hp:p.length≤9223372036854775807):Ctr Tryz.prog 74 [ntv n, .psl 3 (pks p)] [] (fun r o=>o=[]∧r=i64 (sck n p)):=by
 refine fI 0 Tryz.func74 ?_
 have hpl:=pks_len p
 have hfl:=fll n.fl
 have hnf:=hn.fl
 (repeat' (conv=>whnf);first|refine aC ?_ ?_<;>intro<;>try omega|refine z2_T1 ?_|fail);all_goals try (conv=>whnf)
 refine aK [] (Check_ok n hn) ?_
 have h6:chkN n≠0→sck n p=6:=fun h=>by unfold sck;rw [if_pos h]
 have h3:chkN n=0→60<p.length→sck n p=3:=fun h h'=>by unfold sck;rw [if_neg (by omega),if_pos h']
 have hz:chkN n=0→¬60<p.length→sckN n p p.length=0→sck n p=0:=fun h h' h2=>by unfold sck;rw [if_neg (by omega),if_neg h',h2]
 have hst:=fun h0 h1 i=>sck_steps (n:=n) (p:=p) h0 h1 (i:=i)
 generalize sck n p=E at*
 generalize chkN n=e at*
 (repeat' (conv=>whnf);first|refine aC ?_ ?_<;>intro<;>try omega|refine z2_T1 ?_|fail);all_goals try (conv=>whnf)
 ·exact⟨rfl,by rw [h6 (by assumption)];rfl⟩
 ·exact⟨rfl,by rw [h3 (by omega) (by omega)];rfl⟩
 refine LoopOb.mk (Y:=Nat) (st:=fun i=>⟨[(17,i64 i),(16,i64 (pks p).length),(15, .psl 3 (pks p)),(5,i64 (lst p i)),(2, .ptr 0 0)],[nbx n]⟩)
  (inv:=fun i=>i≤p.length∧sckN n p i=0) (fun i=>p.length-i) 0 [0] ⟨by omega,rfl⟩ (by(exact aL)) ?_
 rintro i ⟨hi,hv⟩
 (repeat' (conv=>whnf);first|refine z2_T1 ?_|fail);all_goals try (conv=>whnf)
 refine CondOb.mk (fun hlt=>?_) (fun hlt=>?_)
 ·have hil:i<p.length:=by omega
  have hg:=pks_get hil
  obtain⟨s1,s2,s3⟩:=hst (by omega) (by omega) i hil hv
  clear hst h6 h3 hz
  have hl:lst p (i+1)=(p.getD i pk0).t :=rfl
  unfold bdP pfl at s1 s2 s3
  generalize p.getD i pk0=x at*
  generalize lst p i=y at*
  by_cases hfr:x.f<0∨(n.fl.length:Int)≤x.f
  ·(repeat' (conv=>whnf);first|refine⟨i,_,rfl,hg,?_⟩|refine aC ?_ ?_<;>intro<;>try omega|refine z2_T1 ?_|fail);all_goals try (conv=>whnf)
   all_goals first
    |exact⟨rfl,by rw [s1 (.inl (by omega))];rfl⟩
    |trace_state
  ·have hfg:=flg (l:=n.fl) (i:=x.f.toNat) (by omega)
   generalize n.fl.getD x.f.toNat fl0=f at*
   (repeat' (conv=>whnf);first|refine⟨x.f.toNat,_,by omega,hfg,?_⟩|refine⟨i,_,rfl,hg,?_⟩|refine aC ?_ ?_<;>intro<;>try omega|refine z2_T1 ?_|fail);all_goals try (conv=>whnf)
   all_goals first
    |exact⟨rfl,by rw [s1 (by omega)];rfl⟩
    |exact⟨rfl,by rw [s2 (by omega) (by omega)];rfl⟩
    |exact⟨i+1,[0],⟨by omega,s3 (by omega) (by omega)⟩,by omega,by rw [hl];(exact aL)⟩
    |trace_state
 ·obtain rfl:i=p.length:=by omega
  (repeat' (conv=>whnf);first|refine aC ?_ ?_<;>intro<;>try omega|refine z2_T1 ?_|fail);all_goals try (conv=>whnf)
  exact⟨rfl,by rw [hz (by omega) (by omega) hv];rfl⟩
end
section
open Go.Sx Go.Pk Go.Mc Go.Np
abbrev trs (ms:List (List Int)):List (List SV):=(ms.map ints).map fun m=>[.psl 1 m]
theorem trs_len (ms:List (List Int)):(trs ms).length =ms.length:=by simp [trs]
theorem trs_get {ms:List (List Int)} {i:Nat} (h:i<ms.length):(trs ms)[i]? =some [.psl 1 (ints (ms.getD i []))]:=by simp [trs,h]
theorem smin_ok (l:List Int) (h0:l≠[]) (hl:l.length≤9223372036854775807):Ctr Tryz.prog 156 [.psl 1 (ints l)] [] (fun r o=>o=[]∧∃m:Int,(m<0↔∃j,j<l.length∧l.getD j 0<0)∧r=i64 m):=by
 refine fI 0 Tryz.func156 ?_
 have hil:=ints_len l
 have hlp:0<l.length:=List.length_pos_iff.2 h0
 have hg0:=ints_get (l:=l) (j:=0) hlp
 (repeat' (conv=>whnf);first|refine aC ?_ ?_<;>intro<;>try omega|refine z2_T1 ?_|refine⟨0,_,rfl,hg0,?_⟩|fail);all_goals try (conv=>whnf)
 refine LoopOb.mk (Y:=Nat×Int) (st:=fun y=>⟨[(4,i64 y.1),(3,i64 y.2),(0, .psl 1 (ints l))],[]⟩)
  (inv:=fun y=>y.1≤l.length∧(y.2<0↔∃j,j<y.1∧l.getD j 0<0)) (fun y=>l.length-y.1) (1,l.getD 0 0) [] ⟨by omega,⟨fun h=>⟨0,by omega,h⟩,fun⟨j,h1,h2⟩=>by
   have e:j=0:=by dsimp only at h1;omega
   rw [e]at h2;exact h2⟩⟩ (by(exact aL)) ?_
 rintro⟨i,m⟩ ⟨hi,hm⟩
 dsimp only at hi hm⊢
 (repeat' (conv=>whnf);first|refine z2_T1 ?_|fail);all_goals try (conv=>whnf)
 refine CondOb.mk (fun hlt=>?_) (fun hlt=>?_)
 ·have hil2:i<l.length:=by omega
  have hg:=ints_get (l:=l) (j:=i) hil2
  (repeat' (conv=>whnf);first|refine aC ?_ ?_<;>intro<;>try omega|refine z2_T1 ?_|refine⟨i,_,rfl,hg,?_⟩|fail);all_goals try (conv=>whnf)
  refine⟨(i+1,min m (l.getD i 0)),[],⟨by dsimp only;omega,?_⟩,by dsimp only;omega,by(exact aL)⟩
  constructor
  ·intro h
   dsimp only at h⊢
   by_cases h1:m<0
   ·obtain⟨j,j1,j2⟩:=hm.1 h1
    exact⟨j,by omega,j2⟩
   ·exact⟨i,by omega,by omega⟩
  ·rintro⟨j,h1,h2⟩
   dsimp only at h1⊢
   by_cases e:j=i
   ·subst e;omega
   ·have:=hm.2 ⟨j,by omega,h2⟩;omega
 ·obtain rfl:i=l.length:=by omega
  (repeat' (conv=>whnf);first|refine aC ?_ ?_<;>intro<;>try omega|refine z2_T1 ?_|fail);all_goals try (conv=>whnf)
  exact⟨rfl,m,hm,rfl⟩
theorem z2_S7 {G H:Prop} (k:H) (h:H→G:=by first|exact fun r=>aS r|exact fun r=>aG r|exact fun r=>aD r|exact fun r=>aH r|exact fun r=>aP_T1 r|exact fun r=>aI r|exact fun r=>aJ r|exact fun r=>aW (.qs [0,1,2,3,4,5,6,7,8,9,10,11,12,13,14,15,16,17,18,19,20,21,22,23,24,25,26] .nil) r|exact fun r=>aW (.qs [0,1,2,3,4,5,6,7,8,9,10,11] .nil) r):G:=h k
theorem hops_ok (n:Nt) (hn:NL n) (p:List Pk) (hp:p.length≤9223372036854775807) (k:Int):Ctr Tryz.prog 155 [ntv n, .psl 3 (pks p),i64 k] [] (fun r o=>o=[]∧r=i64 (hps n p k)):=by
 refine fI 0 Tryz.func155 ?_
 have hpl:=pks_len p
 have hfl:=fll n.fl
 have hnf:=hn.fl
 by_cases hk:k<0∨(p.length:Int)≤k
 ·have e:hps n p k=0:=if_pos (by rcases hk with h|h;exact .inl h;exact .inr (.inl h))
  rw [e]
  (repeat' (conv=>whnf);first|refine aC ?_ ?_<;>intro<;>try omega|refine z2_S7 ?_|fail);all_goals try (conv=>whnf)
  all_goals exact⟨rfl,rfl⟩
 ·have hg:=pks_get (l:=p) (j:=k.toNat) (by omega)
  have e:hps n p k=if(p.getD k.toNat pk0).f <0∨(n.fl.length:Int)≤(p.getD k.toNat pk0).f then(0:Int)else((pfl n (p.getD k.toNat pk0)).rt.length :Nat):=by
   unfold hps
   by_cases h:(p.getD k.toNat pk0).f <0∨(n.fl.length:Int)≤(p.getD k.toNat pk0).f
   ·rw [if_pos (.inr (.inr h)),if_pos h]
   ·rw [if_neg (by omega),if_neg h]
  rw [e]
  clear e
  unfold pfl
  generalize p.getD k.toNat pk0=x at*
  by_cases hfr:x.f<0∨(n.fl.length:Int)≤x.f
  ·rw [if_pos hfr]
   (repeat' (conv=>whnf);first|refine⟨k.toNat,_,by omega,hg,?_⟩|refine aC ?_ ?_<;>intro<;>try omega|refine z2_S7 ?_|fail);all_goals try (conv=>whnf)
   all_goals first
    |exact⟨rfl,rfl⟩
    |trace_state
  ·rw [if_neg hfr]
   have hfg:=flg (l:=n.fl) (i:=x.f.toNat) (by omega)
   generalize n.fl.getD x.f.toNat fl0=f at*
   have hrl:=ints_len f.rt
   (repeat' (conv=>whnf);first|refine⟨x.f.toNat,_,by omega,hfg,?_⟩|refine⟨k.toNat,_,by omega,hg,?_⟩|refine aC ?_ ?_<;>intro<;>try omega|refine z2_S7 ?_|fail);all_goals try (conv=>whnf)
   all_goals first
    |exact⟨rfl,by rw [←hrl];rfl⟩
    |trace_state
def arrT:Option Int→SV
 |none=> .tup [i64 0, .bl false]
 |some a=> .tup [i64 a, .bl true]
structure MsL (ms:List (List Int)):Prop where
 l:ms.length≤9223372036854775807
 r:∀i,(ms.getD i []).length ≤9223372036854775807
 v:∀i j,-4611686018427387904≤(ms.getD i []).getD j 0∧(ms.getD i []).getD j 0≤4611686018427387904
theorem getD_dflt {l:List Int} {j:Nat} (h:j<l.length) {a b:Int}:l.getD j a=l.getD j b:=by
 rw [List.getD_eq_getElem?_getD,List.getD_eq_getElem?_getD,List.getElem?_eq_getElem h];rfl
theorem Arr_ok (n:Nt) (hn:NL n) (p:List Pk) (hp:p.length≤9223372036854775807) (ms:List (List Int)) (hm:MsL ms) (k h:Int):Ctr Tryz.prog 124 [ntv n, .psl 3 (pks p), .agg [.psl 1 (trs ms)],i64 k,i64 h] [] (fun r o=>o=[]∧r=arrT (arO n p (dR ms) k h)):=by
 refine fI 0 Tryz.func124 ?_
 have hpl:=pks_len p
 have htl:=trs_len ms
 have hml:=hm.l
 by_cases h1:h<0
 ·rw [arO_neg (.inl h1)]
  (repeat' (conv=>whnf);first|refine aC ?_ ?_<;>intro<;>try omega|refine z2_T1 ?_|fail);all_goals try (conv=>whnf)
  exact⟨rfl,rfl⟩
 by_cases h2:hps n p k≤h
 ·rw [arO_neg (.inr h2)]
  (repeat' (conv=>whnf);first|refine aC ?_ ?_<;>intro<;>try omega|refine z2_T1 ?_|(refine aK [] (hops_ok n hn p hp k) ?_)|fail);all_goals try (conv=>whnf)
  exact⟨rfl,rfl⟩
 have hk:0≤k∧k<p.length:=by
  unfold hps at h2
  split at h2
  ·omega
  ·omega
 have hg:=pks_get (l:=p) (j:=k.toNat) (by omega)
 by_cases h3:h=0
 ·subst h3
  rw [arO_zero (by omega)]
  generalize p.getD k.toNat pk0=x at*
  (repeat' (conv=>whnf);first|refine⟨k.toNat,_,by omega,hg,?_⟩|refine aC ?_ ?_<;>intro<;>try omega|refine z2_T1 ?_|(refine aK [] (hops_ok n hn p hp k) ?_)|fail);all_goals try (conv=>whnf)
  exact⟨rfl,rfl⟩
 rw [arO_pos (by omega) h3]
 by_cases h4:(ms.length:Int)≤k
 ·rw [if_neg fun hall=>by
   have:=hall 0 (by omega)
   unfold dR at this
   rw [List.getD_eq_getElem?_getD,List.getD_eq_getElem?_getD,List.getElem?_eq_none (by omega:ms.length≤k.toNat)]at this
   simp at this]
  (repeat' (conv=>whnf);first|refine aC ?_ ?_<;>intro<;>try omega|refine z2_T1 ?_|(refine aK [] (hops_ok n hn p hp k) ?_)|fail);all_goals try (conv=>whnf)
  exact⟨rfl,rfl⟩
 have hgt:=trs_get (ms:=ms) (i:=k.toNat) (by omega)
 have hrl:=hm.r k.toNat
 have hrv:=hm.v k.toNat
 have hdR:∀j,dR ms k.toNat j=(ms.getD k.toNat []).getD j (-1):=fun _=>rfl
 simp only [hdR]
 clear hdR
 generalize ms.getD k.toNat []=row at*
 have hil:=ints_len row
 by_cases h5:(row.length:Int)<h
 ·rw [if_neg fun hall=>by
   have:=hall row.length (by omega)
   rw [List.getD_eq_getElem?_getD,List.getElem?_eq_none (by omega)]at this
   simp at this]
  (repeat' (conv=>whnf);first|refine⟨k.toNat,_,by omega,hgt,?_⟩|refine aC ?_ ?_<;>intro<;>try omega|refine z2_T1 ?_|(refine aK [] (hops_ok n hn p hp k) ?_)|fail);all_goals try (conv=>whnf)
  exact⟨rfl,rfl⟩
 (repeat' (conv=>whnf);first|refine⟨k.toNat,_,by omega,hgt,?_⟩|refine aC ?_ ?_<;>intro<;>try omega|refine z2_T1 ?_|(refine aK [] (hops_ok n hn p hp k) ?_)|refine⟨h.toNat,by omega,?_⟩|refine And.intro ⟨by omega,by omega⟩ ?_|fail);all_goals try (conv=>whnf)
 have etk:(ints row).take h.toNat=ints (row.take h.toNat):=by unfold ints;rw [List.map_take]
 have htl2:(row.take h.toNat).length =h.toNat:=by rw [List.length_take];omega
 have hgd:∀j,j<h.toNat→(row.take h.toNat).getD j 0=row.getD j (-1):=fun j hj=>by
  rw [getD_dflt (b:=0) (show j<row.length by omega),List.getD_eq_getElem?_getD,List.getElem?_take,if_pos hj,List.getD_eq_getElem?_getD]
 refine CallOb.mk [] (smin_ok (row.take h.toNat) (fun e=>by rw [e]at htl2;simp at htl2;omega) (by omega)) rfl ⟨Imp.of_eq (by rw [List.drop_zero,etk]),trivial⟩ rfl rfl ?_
 rintro _ _ ⟨rfl,m,hmm,rfl⟩
 rw [htl2]at hmm
 have hiff:(∀j,j<h.toNat→0≤row.getD j (-1))↔¬m<0:=by
  constructor
  ·intro hall hlt
   obtain⟨j,j1,j2⟩:=hmm.1 hlt
   rw [hgd j j1]at j2
   have:=hall j j1;omega
  ·intro hge j hj
   by_cases hlt:row.getD j (-1)<0
   ·exact absurd (hmm.2 ⟨j,hj,by rw [hgd j hj];exact hlt⟩) hge
   ·omega
 clear hmm hgd
 by_cases h6:m<0
 ·rw [if_neg (fun hall=>hiff.1 hall h6)]
  (repeat' (conv=>whnf);first|refine aC ?_ ?_<;>intro<;>try omega|refine z2_T1 ?_|fail);all_goals try (conv=>whnf)
  exact⟨rfl,rfl⟩
 ·rw [if_pos (hiff.2 h6)]
  have hgv:=ints_get (l:=row) (j:=h.toNat-1) (by omega)
  have hdf:=getD_dflt (l:=row) (j:=h.toNat-1) (by omega) (a:= -1) (b:=0)
  have hvb:=hrv (h.toNat-1)
  rw [hdf]
  generalize row.getD (h.toNat-1) 0=v at*
  (repeat' (conv=>whnf);first|refine⟨h.toNat-1,_,by omega,hgv,?_⟩|refine⟨k.toNat,_,by omega,hgt,?_⟩|refine aC ?_ ?_<;>intro<;>try omega|refine z2_T1 ?_|fail);all_goals try (conv=>whnf)
  exact⟨rfl,rfl⟩
end
end Go.Proofs.YtjhmjiimpmmnhaaGreat
