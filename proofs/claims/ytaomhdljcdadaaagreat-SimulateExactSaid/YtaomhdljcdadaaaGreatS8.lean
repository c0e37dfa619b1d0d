/- Lemmas that the proofs of this seat use (S8 S0 S1). Conditions: those that stand in each theorem. -/
import Derived.Test.YtaomhdljcdadaaaGreatN9
import Derived.Test.YtaomhdljcdadaaaGreatKw
import Derived.Test.YtaomhdljcdadaaaGreatMs
set_option linter.unusedVariables false
set_option linter.unusedSimpArgs false
section
namespace Go.Proofs.YtaomhdljcdadaaaGreat
open Go.Sx Go.Pk Go.Mc Go.Np
set_option maxRecDepth 4000
set_option maxHeartbeats 2000000
theorem aP_S8 {A B K:Prop} (k:K) (a:A:=by(simp only [zA,zT,zD,zC,zN,ints_len,zR,Go.Cv.vals_len];omega)) (b:B:=by(simp only [zA,zT,zD,zC,zN,ints_len,zR,Go.Cv.vals_len];omega)):(A∧B)∧K:=⟨⟨a,b⟩,k⟩
theorem z1_S8 {G H:Prop} (k:H) (h:H→G:=by first|exact fun r=>aS r|exact fun r=>aG r|exact fun r=>aD r|exact fun r=>aH r|exact fun r=>aP_S8 r|exact fun r=>aI r|exact fun r=>aJ r|exact fun r=>aW (.qs [0,1,2,3,4,5,6,7,8,9,10,11,12,13,14,15,16,17,18,19,20,21,22,23,24,25,26,27,28,29,30,31,32,33,34,35,36,37,38,39,40,41,42,43,44,45,46] .nil) r|exact fun r=>aW (.qs [0,1,2,3,4,5,6,7,8,9,10,11,12] .nil) r):G:=h k
theorem RChk_ok (n:Nt) (hn:NL n) (p:List Pk) (hp:p.length≤9223372036854775807):Ctr Tryz.prog 29 [ntv n, .psl 3 (pks p)] [] (fun r o=>o=[]∧r=i64 (sck n p)):=by
 refine fn_intro (E:=env 0) tys_ok rfl rfl rfl Tryz.func29 (by kernel_rfl) rfl (by kernel_rfl) ?_
 have hpl:=pks_len p
 have hfl:=fll n.fl
 have hnf:=hn.fl
 (repeat' (conv=>whnf);first|(refine aC (fun _=>?_) (fun _=>?_)<;>try (exfalso;omega))|refine z1_S8 ?_|fail);all_goals try (conv=>whnf)
 refine aK [] (rCheck_ok n hn) ?_
 have h6:chkN n≠0→sck n p=6:=fun h=>by unfold sck;rw [if_pos h]
 have h3:chkN n=0→60<p.length→sck n p=3:=fun h h'=>by unfold sck;rw [if_neg (by omega),if_pos h']
 have hz:chkN n=0→¬60<p.length→sckN n p p.length=0→sck n p=0:=fun h h' h2=>by unfold sck;rw [if_neg (by omega),if_neg h',h2]
 have hst:=fun h0 h1 i=>sck_steps (n:=n) (p:=p) h0 h1 (i:=i)
 generalize sck n p=E at*
 generalize chkN n=e at*
 (repeat' (conv=>whnf);first|(refine aC (fun _=>?_) (fun _=>?_)<;>try (exfalso;omega))|refine z1_S8 ?_|fail);all_goals try (conv=>whnf)
 ·exact⟨rfl,by rw [h6 (by assumption)];rfl⟩
 ·exact⟨rfl,by rw [h3 (by omega) (by omega)];rfl⟩
 refine LoopOb.mk (Y:=Nat) (st:=fun i=>⟨[(5,i64 i),(1, .psl 3 (pks p)),(2, .ptr 0 0)],[nbx n]⟩)
  (inv:=fun i=>i≤p.length∧sckN n p i=0) (fun i=>p.length-i) 0 [0] ⟨by omega,rfl⟩ (by(exact aL)) ?_
 rintro i ⟨hi,hv⟩
 by_cases hil:i<p.length
 ·have hg:=pks_get hil
  obtain⟨s1,s2,s3⟩:=hst (by omega) (by omega) i hil hv
  clear hst h6 h3 hz
  have hl0:i=0→lst p i=0:=fun h=>by subst h;rfl
  have hl1:0<i→∃z:Pk,(pks p)[i-1]? =some (pkw z)∧z.t=lst p i:=fun h=>by
   obtain⟨j,rfl⟩:∃j,i=j+1:=⟨i-1,by omega⟩
   exact⟨p.getD j pk0,by rw [Nat.add_sub_cancel];exact pks_get (by omega),rfl⟩
  unfold bdP pfl at s1 s2 s3
  generalize p.getD i pk0=x at*
  generalize lst p i=y at*
  by_cases hfr:x.f<0∨(n.fl.length:Int)≤x.f
  ·(repeat' (conv=>whnf);first|refine⟨i,_,rfl,hg,?_⟩|(refine aC (fun _=>?_) (fun _=>?_)<;>try (exfalso;omega))|refine z1_S8 ?_|fail);all_goals try (conv=>whnf)
   all_goals first
    |exact⟨rfl,by rw [s1 (.inl (by omega))];rfl⟩
    |trace_state
  ·have hfg:=flg (l:=n.fl) (i:=x.f.toNat) (by omega)
   generalize n.fl.getD x.f.toNat fl0=f at*
   rcases Nat.eq_zero_or_pos i with h0|h0
   ·have hy:=hl0 h0
    subst hy
    (repeat' (conv=>whnf);first|refine⟨x.f.toNat,_,by omega,hfg,?_⟩|refine⟨i,_,rfl,hg,?_⟩|(refine aC (fun _=>?_) (fun _=>?_)<;>try (exfalso;omega))|refine z1_S8 ?_|fail);all_goals try (conv=>whnf)
    all_goals first
     |exact⟨rfl,by rw [s1 (by omega)];rfl⟩
     |exact⟨i+1,[0],⟨by omega,s3 (by omega) (by omega)⟩,by omega,by(exact aL)⟩
     |trace_state
   ·obtain⟨z,hz1,hz2⟩:=hl1 h0
    subst hz2
    (repeat' (conv=>whnf);first|refine⟨x.f.toNat,_,by omega,hfg,?_⟩|refine⟨i,_,rfl,hg,?_⟩|refine⟨i-1,_,by omega,hz1,?_⟩|(refine aC (fun _=>?_) (fun _=>?_)<;>try (exfalso;omega))|refine z1_S8 ?_|fail);all_goals try (conv=>whnf)
    all_goals first
     |exact⟨rfl,by rw [s1 (by omega)];rfl⟩
     |exact⟨rfl,by rw [s2 (by omega) (by omega)];rfl⟩
     |exact⟨i+1,[0],⟨by omega,s3 (by omega) (by omega)⟩,by omega,by(exact aL)⟩
     |trace_state
 ·obtain rfl:i=p.length:=by omega
  (repeat' (conv=>whnf);first|(refine aC (fun _=>?_) (fun _=>?_)<;>try (exfalso;omega))|refine z1_S8 ?_|fail);all_goals try (conv=>whnf)
  exact⟨rfl,by rw [hz (by omega) (by omega) hv];rfl⟩
theorem z2_S8 {G H:Prop} (k:H) (h:H→G:=by first|exact fun r=>aS r|exact fun r=>aG r|exact fun r=>aD r|exact fun r=>aH r|exact fun r=>aP_S8 r|exact fun r=>aI r|exact fun r=>aJ r|exact fun r=>aW (.qs [0,1,2,3,4,5,6,7,8,9,10,11,12,13,14,15,16,17,18,19,20,21,22,23,24,25,26,27,28,29,30,31,32,33,34,35,36,37,38,39,40,41,42,43,44,45] .nil) r):G:=h k
theorem RArr_ok (n:Nt) (hn:NL n) (p:List Pk) (hp:p.length≤9223372036854775807) (ms:List (List Int)) (hm:MsL ms) (k h:Int):Ctr Tryz.prog 49 [ntv n, .psl 3 (pks p), .agg [.psl 1 (trs ms)],i64 k,i64 h] [] (fun r o=>o=[]∧r=arrT (arO n p (dR ms) k h)):=by
 refine fn_intro (E:=env 0) tys_ok rfl rfl rfl Tryz.func49 (by kernel_rfl) rfl (by kernel_rfl) ?_
 have hpl:=pks_len p
 have htl:=trs_len ms
 have hml:=hm.l
 have hfl:=fll n.fl
 have hnf:=hn.fl
 by_cases hk:k<0∨(p.length:Int)≤k
 ·have e:hps n p k=0:=if_pos (by rcases hk with h|h;exact .inl h;exact .inr (.inl h))
  rw [arO_neg (by rw [e];omega)]
  (repeat' (conv=>whnf);first|(refine aC (fun _=>?_) (fun _=>?_)<;>try (exfalso;omega))|refine z2_S8 ?_|fail);all_goals try (conv=>whnf)
  all_goals exact⟨rfl,rfl⟩
 have hg:=pks_get (l:=p) (j:=k.toNat) (by omega)
 by_cases hfr:(p.getD k.toNat pk0).f <0∨(n.fl.length:Int)≤(p.getD k.toNat pk0).f
 ·have e:hps n p k=0:=if_pos (.inr (.inr hfr))
  rw [arO_neg (by rw [e];omega)]
  generalize p.getD k.toNat pk0=x at*
  (repeat' (conv=>whnf);first|refine⟨k.toNat,_,by omega,hg,?_⟩|(refine aC (fun _=>?_) (fun _=>?_)<;>try (exfalso;omega))|refine z2_S8 ?_|fail);all_goals try (conv=>whnf)
  all_goals exact⟨rfl,rfl⟩
 have e:hps n p k=((pfl n (p.getD k.toNat pk0)).rt.length :Nat):=if_neg (by omega)
 have hfg:=flg (l:=n.fl) (i:=(p.getD k.toNat pk0).f.toNat) (by omega)
 have hpf:pfl n (p.getD k.toNat pk0)=n.fl.getD (p.getD k.toNat pk0).f.toNat fl0:=rfl
 rw [←hpf]at hfg
 clear hpf
 have hz:=fun h=>arO_zero (n:=n) (p:=p) (D:=dR ms) (k:=k) h
 have hps1:=fun h1 h2=>arO_pos (n:=n) (p:=p) (D:=dR ms) (k:=k) (h:=h) h1 h2
 have hneg:=fun h1=>arO_neg (n:=n) (p:=p) (D:=dR ms) (k:=k) (h:=h) h1
 rw [e]at hz hps1 hneg
 clear e
 generalize pfl n (p.getD k.toNat pk0)=f at*
 generalize p.getD k.toNat pk0=x at*
 have hrl0:=ints_len f.rt
 by_cases h1:h<0∨(f.rt.length:Int)≤h
 ·rw [hneg h1]
  (repeat' (conv=>whnf);first|refine⟨x.f.toNat,_,by omega,hfg,?_⟩|refine⟨k.toNat,_,by omega,hg,?_⟩|(refine aC (fun _=>?_) (fun _=>?_)<;>try (exfalso;omega))|refine z2_S8 ?_|fail);all_goals try (conv=>whnf)
  all_goals exact⟨rfl,rfl⟩
 clear hneg
 by_cases h3:h=0
 ·subst h3
  rw [hz (by omega)]
  clear hz hps1
  (repeat' (conv=>whnf);first|refine⟨x.f.toNat,_,by omega,hfg,?_⟩|refine⟨k.toNat,_,by omega,hg,?_⟩|(refine aC (fun _=>?_) (fun _=>?_)<;>try (exfalso;omega))|refine z2_S8 ?_|fail);all_goals try (conv=>whnf)
  all_goals exact⟨rfl,rfl⟩
 rw [hps1 (by omega) h3]
 clear hz hps1
 by_cases h4:(ms.length:Int)≤k
 ·rw [if_neg fun hall=>by
   have:=hall 0 (by omega)
   unfold dR at this
   rw [List.getD_eq_getElem?_getD,List.getD_eq_getElem?_getD,List.getElem?_eq_none (by omega:ms.length≤k.toNat)]at this
   simp at this]
  (repeat' (conv=>whnf);first|refine⟨x.f.toNat,_,by omega,hfg,?_⟩|refine⟨k.toNat,_,by omega,hg,?_⟩|(refine aC (fun _=>?_) (fun _=>?_)<;>try (exfalso;omega))|refine z2_S8 ?_|fail);all_goals try (conv=>whnf)
  all_goals exact⟨rfl,rfl⟩
 have hgt:=trs_get (ms:=ms) (i:=k.toNat) (by omega)
 have hrl:=hm.r k.toNat
 have hrv:=hm.v k.toNat
 have hdR:∀j,dR ms k.toNat j=(ms.getD k.toNat []).getD j (-1):=fun _=>rfl
 simp only [hdR]
 clear hdR
 generalize ms.getD k.toNat []=row at*
 have hil:=ints_len row
 by_cases h5:(row.length:Int)<h
 ·rw [if_neg fun hall=>by
   have:=hall row.length (by omega)
   rw [List.getD_eq_getElem?_getD,List.getElem?_eq_none (by omega)]at this
   simp at this]
  (repeat' (conv=>whnf);first|refine⟨k.toNat,_,by omega,hgt,?_⟩|refine⟨x.f.toNat,_,by omega,hfg,?_⟩|refine⟨k.toNat,_,by omega,hg,?_⟩|(refine aC (fun _=>?_) (fun _=>?_)<;>try (exfalso;omega))|refine z2_S8 ?_|fail);all_goals try (conv=>whnf)
  all_goals exact⟨rfl,rfl⟩
 have hgd:∀j,j<h.toNat→row.getD j (-1)=row.getD j 0:=fun j hj=>getD_dflt (by omega)
 have hgv:=ints_get (l:=row) (j:=h.toNat-1) (by omega)
 have hvb:=hrv (h.toNat-1)
 have hfin:=hgd (h.toNat-1) (by omega)
 by_cases h6:row.getD (h.toNat-1) 0<0
 ·rw [if_neg fun hall=>by have:=hall (h.toNat-1) (by omega);omega]
  generalize row.getD (h.toNat-1) 0=v at*
  (repeat' (conv=>whnf);first|refine⟨h.toNat-1,_,by omega,hgv,?_⟩|refine⟨k.toNat,_,by omega,hgt,?_⟩|refine⟨x.f.toNat,_,by omega,hfg,?_⟩|refine⟨k.toNat,_,by omega,hg,?_⟩|(refine aC (fun _=>?_) (fun _=>?_)<;>try (exfalso;omega))|refine z2_S8 ?_|fail);all_goals try (conv=>whnf)
  all_goals exact⟨rfl,rfl⟩
 rw [hfin]
 obtain⟨v,hv⟩:∃v,row.getD (h.toNat-1) 0=v:=⟨_,rfl⟩
 rw [hv]at hgv hvb h6⊢
 (repeat' (conv=>whnf);first|refine⟨h.toNat-1,_,by omega,hgv,?_⟩|refine⟨k.toNat,_,by omega,hgt,?_⟩|refine⟨x.f.toNat,_,by omega,hfg,?_⟩|refine⟨k.toNat,_,by omega,hg,?_⟩|(refine aC (fun _=>?_) (fun _=>?_)<;>try (exfalso;omega))|refine z2_S8 ?_|fail);all_goals try (conv=>whnf)
 refine LoopOb.mk (Y:=Nat) (st:=fun i=>⟨[(12,i64 i),(3,i64 k),(4,i64 h),(7, .ptr 1 0)],[nbx n, .box [.psl 1 (trs ms)]]⟩)
  (inv:=fun i=>i≤h.toNat∧∀j,j<i→0≤row.getD j 0) (fun i=>h.toNat-i) 0 [0,1] ⟨by omega,fun j hj=>by omega⟩ (by(exact aL)) ?_
 rintro i ⟨hi,hall⟩
 by_cases hlt:i<h.toNat
 ·have hgi:=ints_get (l:=row) (j:=i) (by omega)
  have hgdi:=hgd i hlt
  have hnx:0≤row.getD i 0→∀j,j<i+1→0≤row.getD j 0:=fun h j hj=>by
   by_cases e:j=i
   ·subst e;exact h
   ·exact hall j (by omega)
  have hng:row.getD i 0<0→(if∀j,j<h.toNat→0≤row.getD j (-1)then some (v+1)else none)=none:=fun h=>if_neg fun ha=>by have:=ha i hlt;omega
  generalize row.getD i 0=u at*
  (repeat' (conv=>whnf);first|refine⟨i,_,by omega,hgi,?_⟩|refine⟨k.toNat,_,by omega,hgt,?_⟩|(refine aC (fun _=>?_) (fun _=>?_)<;>try (exfalso;omega))|refine z2_S8 ?_|fail);all_goals try (conv=>whnf)
  all_goals first
   |exact⟨rfl,by rw [hng (by assumption)];rfl⟩
   |exact⟨i+1,[0,1],⟨by omega,hnx (by omega)⟩,by omega,by(exact aL)⟩
   |trace_state
 ·obtain rfl:i=h.toNat:=by omega
  rw [if_pos (fun j hj=>by rw [hgd j hj];exact hall j hj)]
  (repeat' (conv=>whnf);first|refine⟨h.toNat-1,_,by omega,hgv,?_⟩|refine⟨k.toNat,_,by omega,hgt,?_⟩|(refine aC (fun _=>?_) (fun _=>?_)<;>try (exfalso;omega))|refine z2_S8 ?_|fail);all_goals try (conv=>whnf)
  all_goals exact⟨rfl,rfl⟩
end Go.Proofs.YtaomhdljcdadaaaGreat
end
section
namespace Go.Proofs.YtaomhdljcdadaaaGreat
open Go.Sx Go.Pk Go.Mc
set_option maxRecDepth 4000
set_option maxHeartbeats 2000000
abbrev bls (m:Nat) (f:Nat→Bool):List (List SV):=(List.range m).map fun b=>[.bl (f b)]
abbrev ivs (m:Nat) (f:Nat→Int):List (List SV):=(List.range m).map fun b=>[i64 (f b)]
theorem bls_len (m:Nat) (f:Nat→Bool):(bls m f).length =m:=by simp [bls]
theorem ivs_len (m:Nat) (f:Nat→Int):(ivs m f).length =m:=by simp [ivs]
theorem bls_get {m b:Nat} {f:Nat→Bool} (h:b<m):(bls m f)[b]? =some [.bl (f b)]:=by simp [bls,h]
theorem ivs_get {m b:Nat} {f:Nat→Int} (h:b<m):(ivs m f)[b]? =some [i64 (f b)]:=by simp [ivs,h]
theorem map_upd {α β:Type} {m b:Nat} {f:Nat→α} {v:α} {g:α→β}:((List.range m).map fun i=>g (f i)).set b (g v)=(List.range m).map fun i=>g (upd f b v i):=by
 apply List.ext_getElem?;intro j
 rw [List.getElem?_set]
 by_cases e:b=j
 ·subst e
  rw [if_pos rfl]
  by_cases h:b<m
  ·simp [h,upd_same]
  ·simp [h]
 ·rw [if_neg e]
  by_cases h:j<m
  ·simp [h,upd_ne (fun e'=>e e'.symm)]
  ·simp [h]
theorem bls_set {m b:Nat} {f:Nat→Bool} {v:Bool}:(bls m f).set b [.bl v]=bls m (upd f b v):=map_upd (g:=fun x=>[SV.bl x])
theorem ivs_set {m b:Nat} {f:Nat→Int} {v:Int}:(ivs m f).set b [i64 v]=ivs m (upd f b v):=map_upd (g:=fun x=>[i64 x])
theorem bls_rep (m:Nat) (v:Bool):List.replicate m [SV.bl v]=bls m fun _=>v:=by
 apply List.ext_getElem?;intro j
 by_cases h:j<m<;>simp [bls,h]
theorem ivs_rep (m:Nat) (v:Int):List.replicate m [i64 v]=ivs m fun _=>v:=by
 apply List.ext_getElem?;intro j
 by_cases h:j<m<;>simp [ivs,h]
def oI:Option Nat→Int
 |none=> -1
 |some i=>i
abbrev stB (now left:Int) (p:List Pk) (bef:Nat):Chunk:= .box [i64 now,i64 left, .psl 3 (pks p), .vec 1,i64 bef]
structure PL (p:List Pk):Prop where
 l:p.length≤60
 a:Asc p
 s:∀i,i<p.length→1≤(p.getD i pk0).s ∧(p.getD i pk0).s ≤1500
 t:∀i,i<p.length→0≤(p.getD i pk0).t ∧(p.getD i pk0).t ≤2000
end Go.Proofs.YtaomhdljcdadaaaGreat
end
section
namespace Go.Proofs.YtaomhdljcdadaaaGreat
open Go.Sx Go.Pk Go.Mc
set_option maxRecDepth 4000
set_option maxHeartbeats 2000000
structure Bf (p:List Pk) (bg:Nat→Bool) (bef:Nat):Prop where
 l:bef≤p.length
 b:∀j,j<bef→bg j=true
theorem fst_bf {p:List Pk} (hp:PL p) {now:Nat} {bg:Nat→Bool} {bef:Nat} (h:Bf p bg bef) (hb:¬(bef<p.length∧bg bef=true)):
  fst (wt p now bg) p.length=if bef<p.length∧tm p bef≤now then some bef else none:=by
 split
 ·rename_i hh
  refine fst_some.2 ⟨hh.1,wt_iff.2 ⟨hh.1,hh.2,?_⟩,fun j hj=>?_⟩
  ·cases e:bg bef with
   |false=>rfl
   |true=>exact absurd ⟨hh.1,e⟩ hb
  ·cases e:wt p now bg j with
   |false=>rfl
   |true=>have:=(wt_iff.1 e).2.2;rw [h.b j hj]at this;cases this
 ·rename_i hh
  refine fst_none.2 fun j hj=>?_
  cases e:wt p now bg j with
  |false=>rfl
  |true=>
   obtain⟨e1,e2,e3⟩:=wt_iff.1 e
   rcases Nat.lt_or_ge j bef with h1|h1
   ·rw [h.b j h1]at e3;cases e3
   ·have:=hp.a bef j h1 hj
    exact absurd ⟨by omega,by omega⟩ hh
theorem aP_S1 {A B K:Prop} (k:K) (a:A:=by(simp only [zA,zT,zD,zC,zN,ints_len,zR,Go.Cv.vals_len];omega)) (b:B:=by(simp only [zA,zT,zD,zC,zN,ints_len,zR,Go.Cv.vals_len];omega)):(A∧B)∧K:=⟨⟨a,b⟩,k⟩
theorem z1_S1 {G H:Prop} (k:H) (h:H→G:=by first|exact fun r=>aS r|exact fun r=>aG r|exact fun r=>aD r|exact fun r=>aH r|exact fun r=>aP_S1 r|exact fun r=>aI r|exact fun r=>aJ r|exact fun r=>aW (.qs [0,1,2,3,4,5,6,7,8,9,10,11,12,13,14,15,16,17,18,19,20,21] .nil) r|exact fun r=>aW (.qs [0,1,2,3,4,5,6,7,8,9,10,11,12,13,14,15,16,17,18,19,20,21,22,23,24,25,26,27] .nil) r):G:=h k
theorem First_ok (p:List Pk) (hp:PL p) (now:Nat) (left:Int) (bg:Nat→Bool) (bef:Nat) (hB:Bf p bg bef):
  Ctr Tryz.prog 226 [.ptr 0 0] [stB now left p bef, .vec 1 (bls p.length bg)] (fun r o=>∃b2,Bf p bg b2∧o=[stB now left p b2, .vec 1 (bls p.length bg)]∧r=i64 (oI (fst (wt p now bg) p.length))):=by
 refine fn_intro (E:=env 2) tys_ok rfl rfl rfl Tryz.func226 (by kernel_rfl) rfl (by kernel_rfl) ?_
 have hpl:=pks_len p
 have hbl:=bls_len p.length bg
 have h60:=hp.l
 (repeat' (conv=>whnf);first|(refine aC (fun _=>?_) (fun _=>?_)<;>try (exfalso;omega))|refine z1_S1 ?_|fail);all_goals try (conv=>whnf)
 refine LoopOb.mk (Y:=Nat) (st:=fun b=>⟨[(2,i64 0),(0, .ptr 0 0)],[stB now left p b, .vec 1 (bls p.length bg)]⟩) (inv:=fun b=>Bf p bg b) (fun b=>p.length-b) bef [0,1] hB (by(exact aL)) ?_
 rintro b hb
 have hb1:=hb.l
 have hft:=fun h=>fst_bf hp (now:=now) hb h
 have hst:b<p.length→bg b=true→Bf p bg (b+1):=fun h1 h2=>⟨by omega,fun j hj=>by
  by_cases e:j=b
  ·rw [e];exact h2
  ·exact hb.b j (by omega)⟩
 by_cases hbl2:b<p.length
 ·have hgb:=bls_get (f:=bg) hbl2
  have hgp:=pks_get hbl2
  rw [show tm p b=(p.getD b pk0).t from rfl]at hft
  generalize p.getD b pk0=x at*
  cases hv:bg b with
  |true=>
   rw [hv]at hgb
   (repeat' (conv=>whnf);first|refine z1_S1 ?_|refine⟨b,rfl,by omega,?_⟩|refine⟨_,hgb,?_⟩|refine CondOb.mk (fun _=>?_) (fun _=>by omega)|fail);all_goals try (conv=>whnf)
   exact⟨b+1,[0,1],hst hbl2 hv,by omega,by(exact aL)⟩
  |false=>
   rw [hv]at hgb hft
   have hft:=hft (by simp)
   (repeat' (conv=>whnf);first|refine⟨b,_,rfl,hgp,?_⟩|(refine aC (fun _=>?_) (fun _=>?_)<;>try (exfalso;omega))|refine z1_S1 ?_|refine⟨b,rfl,by omega,?_⟩|refine⟨_,hgb,?_⟩|fail);all_goals try (conv=>whnf)
   ·exact⟨b,hb,rfl,by rw [hft,if_pos ⟨hbl2,by assumption⟩];rfl⟩
   ·exact⟨b,hb,rfl,by rw [hft,if_neg (fun h=>absurd h.2 (by assumption))];rfl⟩
 ·(repeat' (conv=>whnf);first|(refine aC (fun _=>?_) (fun _=>?_)<;>try (exfalso;omega))|refine z1_S1 ?_|fail);all_goals try (conv=>whnf)
  exact⟨b,hb,rfl,by rw [hft (fun h=>hbl2 h.1),if_neg (fun h=>hbl2 h.1)];rfl⟩
theorem z2_S1 {G H:Prop} (k:H) (h:H→G:=by first|exact fun r=>aS r|exact fun r=>aG r|exact fun r=>aD r|exact fun r=>aH r|exact fun r=>aP_S1 r|exact fun r=>aI r|exact fun r=>aJ r|exact fun r=>aW (.qs [0,1,2,3,4,5,6,7,8,9,10,11,12,13,14,15,16,17,18,19,20,21] .nil) r):G:=h k
theorem Next_ok (p:List Pk) (hp:PL p) (now:Nat) (left c:Int) (bg:Nat→Bool) (bef:Nat) (hB:Bf p bg bef):
  Ctr Tryz.prog 232 [.ptr 0 0,i64 c] [stB now left p bef, .vec 1 (bls p.length bg)] (fun r o=>∃b2,Bf p bg b2∧o=[stB now left p b2, .vec 1 (bls p.length bg)]∧r=i64 (oI (fc p (wt p now bg) c))):=by
 refine fn_intro (E:=env 2) tys_ok rfl rfl rfl Tryz.func232 (by kernel_rfl) rfl (by kernel_rfl) ?_
 have hpl:=pks_len p
 have hbl:=bls_len p.length bg
 have h60:=hp.l
 (repeat' (conv=>whnf);first|(refine aC (fun _=>?_) (fun _=>?_)<;>try (exfalso;omega))|refine z2_S1 ?_|fail);all_goals try (conv=>whnf)
 refine aM [0,1] (First_ok p hp now left bg bef hB) rfl rfl ?_
 rintro _ _ ⟨b2,hB2,rfl,rfl⟩
 have hB3:=hB2.l
 obtain⟨i0,hi0,hi1,hi2⟩:∃i0:Nat,max 0 (oI (fst (wt p now bg) p.length))=i0∧i0≤p.length∧∀j,j<i0→wt p now bg j=false:=by
  cases hf:fst (wt p now bg) p.length with
  |none=>exact⟨0,rfl,Nat.zero_le _,fun j hj=>by omega⟩
  |some i=>
   obtain⟨f1,f2,f3⟩:=fst_some.1 hf
   exact⟨i,by unfold oI;simp only;omega,by omega,f3⟩
 (repeat' (conv=>whnf);first|(refine aC (fun _=>?_) (fun _=>?_)<;>try (exfalso;omega))|refine z2_S1 ?_|fail);all_goals try (conv=>whnf)
 rw [hi0]
 refine LoopOb.mk (Y:=Nat) (st:=fun i=>⟨[(5,i64 i),(4,i64 0),(0, .ptr 0 0),(1,i64 c)],[stB now left p b2, .vec 1 (bls p.length bg)]⟩)
  (inv:=fun i=>i≤p.length∧∀j,j<i→cl p j=c→wt p now bg j=false) (fun i=>p.length-i) i0 [0,1] ⟨hi1,fun j hj _=>hi2 j hj⟩ (by(exact aL)) ?_
 clear hi0 hi1 hi2 i0
 rintro i ⟨hi,hv⟩
 have hno:¬(i<p.length∧tm p i≤now)→fc p (wt p now bg) c=none:=fun h=>fc_none.2 fun j hj hc=>by
  rcases Nat.lt_or_ge j i with h1|h1
  ·exact hv j h1 hc
  ·cases e:wt p now bg j with
   |false=>rfl
   |true=>
    have:=(wt_iff.1 e).2.1
    have:=hp.a i j h1 hj
    exact absurd ⟨by omega,by omega⟩ h
 by_cases hil:i<p.length
 ·have hgb:=bls_get (f:=bg) hil
  have hgp:=pks_get hil
  have hyes:tm p i≤now→bg i=false→cl p i=c→fc p (wt p now bg) c=some i:=fun h1 h2 h3=>fc_some.2 ⟨hil,wt_iff.2 ⟨hil,h1,h2⟩,h3,hv⟩
  have hst:(cl p i=c→wt p now bg i=false)→∀j,j<i+1→cl p j=c→wt p now bg j=false:=fun h j hj hc=>by
   by_cases e:j=i
   ·subst e;exact h hc
   ·exact hv j (by omega) hc
  have hwf:bg i=true→wt p now bg i=false:=fun h=>by
   cases e:wt p now bg i with
   |false=>rfl
   |true=>have:=(wt_iff.1 e).2.2;rw [h]at this;cases this
  rw [show tm p i=(p.getD i pk0).t from rfl]at hno hyes
  rw [show cl p i=(p.getD i pk0).f from rfl]at hst hyes
  generalize p.getD i pk0=x at*
  cases hbv:bg i with
  |true=>
   rw [hbv]at hgb
   (repeat' (conv=>whnf);first|refine⟨i,_,rfl,hgp,?_⟩|(refine aC (fun _=>?_) (fun _=>?_)<;>try (exfalso;omega))|refine z2_S1 ?_|refine⟨i,rfl,by omega,?_⟩|refine⟨_,hgb,?_⟩|fail);all_goals try (conv=>whnf)
   all_goals first
    |exact⟨b2,hB2,rfl,by rw [hno (fun h=>absurd h.2 (by assumption))];rfl⟩
    |exact⟨i+1,[0,1],⟨by omega,hst fun _=>hwf hbv⟩,by omega,by(exact aL)⟩
    |trace_state
  |false=>
   rw [hbv]at hgb
   (repeat' (conv=>whnf);first|refine⟨i,_,rfl,hgp,?_⟩|(refine aC (fun _=>?_) (fun _=>?_)<;>try (exfalso;omega))|refine z2_S1 ?_|refine⟨i,rfl,by omega,?_⟩|refine⟨_,hgb,?_⟩|fail);all_goals try (conv=>whnf)
   all_goals first
    |exact⟨b2,hB2,rfl,by rw [hno (fun h=>absurd h.2 (by assumption))];rfl⟩
    |exact⟨b2,hB2,rfl,by rw [hyes (by assumption) hbv (by assumption)];rfl⟩
    |exact⟨i+1,[0,1],⟨by omega,hst fun h=>absurd h (by assumption)⟩,by omega,by(exact aL)⟩
    |trace_state
 ·(repeat' (conv=>whnf);first|(refine aC (fun _=>?_) (fun _=>?_)<;>try (exfalso;omega))|refine z2_S1 ?_|fail);all_goals try (conv=>whnf)
  exact⟨b2,hB2,rfl,by rw [hno (fun h=>hil h.1)];rfl⟩
end Go.Proofs.YtaomhdljcdadaaaGreat
end
