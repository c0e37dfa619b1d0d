/- Lemmas of this seat. Conditions: as stated. -/
import Derived.Test.YtaomhdljcdadaaaGreatS13
set_option linter.unusedVariables false
set_option linter.unusedSimpArgs false
set_option maxHeartbeats 2000000
set_option maxRecDepth 4000
namespace Go.Proofs.YtaomhdljcdadaaaGreat
section
open Go.Sx Go.Pk Go.Mc
theorem dfc_yes {p:List Pk} (hp:PL p) {q:List Int} {N:Nat} (hN:1≤N) (hq:QtP q N) (hcl:∀i,i<p.length→0≤cl p i∧cl p i<N) {t left:Nat} {bg:Nat→Bool} {s:Df} (s1:DfP N s) (h:fst (wt p t bg) p.length≠none):
  (dfc (fc p (wt p t bg)) (sz p) (fun c=>q.getD c 0) N (fuelD N 1500) s).2 ≠none∧(defC q).ch p t left (wt p t bg) s=dfc (fc p (wt p t bg)) (sz p) (fun c=>q.getD c 0) N (fuelD N 1500) s:=by
 have h1:(dfc (fc p (wt p t bg)) (sz p) (fun c=>q.getD c 0) N (fuelD N 1500) s).2 ≠none:=by
  cases hf:fst (wt p t bg) p.length with
  |none=>exact absurd hf h
  |some i=>
   obtain⟨f1,f2,f3⟩:=fst_some.1 hf
   obtain⟨c1,c2⟩:=hcl i f1
   cases hfc:fc p (wt p t bg) (cl p i)with
   |none=>
    have:=fc_none.1 hfc i f1 rfl
    rw [f2]at this;cases this
   |some j=>
    refine dfc_ends hN (fun c hc=>(hq.w c hc).1) (cs:=(cl p i).toNat) (by omega) (i:=j) (by rw [Int.toNat_of_nonneg c1];exact hfc) ?_ s1.c fun c=>(s1.d c).1
    have:=hp.s j (fc_some.1 hfc).1;unfold sz;omega
 refine⟨h1,?_⟩
 refine(if_neg h).trans ?_
 rw [hq.l]
 cases hr:(dfc (fc p (wt p t bg)) (sz p) (fun c=>q.getD c 0) N (fuelD N 1500) s).2 with
 |none=>exact absurd hr h1
 |some i=>exact Prod.ext rfl hr.symm
abbrev dfV (s:Df):SV:= .agg [i64 s.c, .bl s.b, .vec 3]
theorem z1_Qad {G H:Prop} (k:H) (h:H→G:=by first|exact fun r=>aS r|exact fun r=>aG r|exact fun r=>aD r|exact fun r=>aH r|exact fun r=>aP_T1 r|exact fun r=>aI r|exact fun r=>aJ r|exact fun r=>aW (.qs [0,1,2,3,4,5,6,7,8,9,10,11,12,13,14,15,16] (.l 17 [] .nil .no)) r|exact fun r=>aW (.qs [0,1,2,3,4,5,6,7,8,9,10,11,12,13,14,15] .nil) r|exact fun r=>aW (.qs [0,1,2,3,4,5,6,7,8,9,10,11,12,13,14,15,16] (.l 17 [] .nil .no)) r):G:=h k
theorem DChoD_ok (p:List Pk) (hp:PL p) (q:List Int) (N:Nat) (hN:1≤N) (hN2:N≤6) (hq:QtP q N) (t:Nat) (now:Int) (G dn:Nat→Int) (ms:List (List Int)) (bg:Nat→Bool) (hb:∀i,wt p t (bgO G now) i=wt p t bg i)
  (K:Nat) (s:Df) (s1:DfP N s) (hne:(dfc (fc p (wt p t bg)) (sz p) (fun c=>q.getD c 0) N K s).2 ≠none):
  Ctr Tryz.prog 173 [dfV s,stV t now, .psl 1 (ints q), .psl 3 (pks p)] (stO p.length G dn ms++[.vec 1 (ivs N s.d)]) (fun r o=>o=stO p.length G dn ms++[.vec 1 (ivs N (dfc (fc p (wt p t bg)) (sz p) (fun c=>q.getD c 0) N K s).1.d)]∧r= .tup [dfV (dfc (fc p (wt p t bg)) (sz p) (fun c=>q.getD c 0) N K s).1,i64 (oI (dfc (fc p (wt p t bg)) (sz p) (fun c=>q.getD c 0) N K s).2)]):=by
 refine fI 4 Tryz.func173 ?_
 have h60:=hp.l
 have hil:=ints_len q
 have hwl:=hq.l
 have hpl:=pks_len p
 generalize hW:dfc (fc p (wt p t bg)) (sz p) (fun c=>q.getD c 0) N K s=W at*
 (repeat' (conv=>whnf);first|refine aC ?_ ?_<;>intro<;>try omega|refine z1_Qad ?_|fail);all_goals try (conv=>whnf)
 refine LoopOb.mk (Y:=Nat×Df) (st:=fun y=>⟨[(5, .ptr 5 0),(4, .ptr 4 0),(8, .ptr 6 0),(2, .psl 1 (ints q)),(3, .psl 3 (pks p))],stO p.length G dn ms++[.vec 1 (ivs N y.2.d), .box [i64 y.2.c, .bl y.2.b, .vec 3], .box [i64 t, .vec 0,i64 now, .vec 1, .vec 2], .box [i64 0, .bl false, .nil]]⟩)
  (inv:=fun y=>DfP N y.2∧dfc (fc p (wt p t bg)) (sz p) (fun c=>q.getD c 0) N y.1 y.2=W) (fun y=>y.1) (K,s) [0,1,2,3,4,5,6] ⟨s1,hW⟩ (by(exact aL)) ?_
 clear hW s1
 clear s
 rintro⟨k,s⟩ ⟨h1,hr⟩
 dsimp only at h1 hr⊢
 obtain⟨k,rfl⟩:∃k',k=k'+1:=by
  cases k with
  |zero=>rw [←hr]at hne;exact absurd rfl hne
  |succ k=>exact⟨k,rfl⟩
 rw [dfc]at hr
 have hq1:=h1.q (q:=fun c=>q.getD c 0) (fun c hc=>hq.w c hc)
 have hn:=fun hz=>h1.n (q:=fun c=>q.getD c 0) hN (fun c hc=>hq.w c hc) hz
 have he:=h1.e hN
 have hgq:=ints_get (l:=q) (j:=s.c) (by have:=h1.c;omega)
 have hgd:=ivs_get (f:=s.d) h1.c
 have hgd3:((ivs N s.d).set s.c [i64 (s.d s.c+q.getD s.c 0)])[s.c]? =some [i64 (s.d s.c+q.getD s.c 0)]:=by rw [ivs_set,ivs_get h1.c,upd_same]
 have hdl3:((ivs N s.d).set s.c [i64 (s.d s.c+q.getD s.c 0)]).length =N:=by rw [ivs_set];exact ivs_len _ _
 have hdl:=ivs_len N s.d
 have hqw:=hq.w s.c h1.c
 have hdw:=h1.d s.c
 have hc1:=h1.c
 have hdq:=hq1.1 s.c
 have hdqt:s.b=true→dq (fun c=>q.getD c 0) s=s.d:=fun h=>by unfold dq;rw [if_pos h]
 have hdqf:s.b=false→dq (fun c=>q.getD c 0) s=upd s.d s.c (s.d s.c+q.getD s.c 0):=fun h=>by unfold dq;rw [if_neg (by rw [h];simp)]
 have etm:((s.c:Int)+1).tmod (ints q).length =((s.c+1)%N:Nat):=by rw [hil,hwl,Int.tmod_eq_emod_of_nonneg (by omega)];rfl
 (repeat' (conv=>whnf);first|refine aC ?_ ?_<;>intro<;>try omega|refine z1_Qad ?_|fail);all_goals try (conv=>whnf)
 refine aK [0,1,2] (RFc_ok p (by omega) t now G dn ms bg hb s.c (by omega)) ?_
 cases hf:fc p (wt p t bg) s.c with
 |none=>
  have ho3:oI none= -1:=rfl
  rw [hf]at hr
  dsimp only at hr
  rw [ho3]
  (repeat' (conv=>whnf);first|refine aC ?_ ?_<;>intro<;>try omega|refine z1_Qad ?_|refine⟨s.c,rfl,by omega,?_⟩|refine⟨_,hgd,?_⟩|refine And.intro (by omega) ?_|fail);all_goals try (conv=>whnf)
  exact⟨(k,⟨(s.c+1)%N,false,upd s.d s.c 0⟩),[0,1,2,3,4,5,6],⟨he,hr⟩,by dsimp only;omega,by rw [etm,ivs_set];(exact aL)⟩
 |some i=>
  have ho3:oI (some i)=i:=rfl
  rw [hf]at hr
  dsimp only at hr
  rw [ho3]
  have hip:=(fc_some.1 hf).1
  have hzz:=hp.s i hip
  have hz2:(sz p i:Int)=(p.getD i pk0).s :=by unfold sz;omega
  have hgp:=pks_get hip
  generalize p.getD i pk0=x at*
  cases hbb:s.b with
  |true=>
   rw [hdqt hbb]at hr hn hdq
   by_cases hz:(sz p i:Int)≤s.d s.c
   ·rw [if_pos hz]at hr
    (repeat' (conv=>whnf);first|refine⟨i,_,rfl,hgp,?_⟩|refine aC ?_ ?_<;>intro<;>try omega|refine z1_Qad ?_|refine⟨s.c,rfl,by omega,?_⟩|refine⟨_,hgd,?_⟩|fail);all_goals try (conv=>whnf)
    exact⟨by rw [←hr,ivs_set,←hz2];rfl,by rw [←hr];rfl⟩
   ·rw [if_neg hz]at hr
    have hn:=hn (by omega)
    (repeat' (conv=>whnf);first|refine⟨i,_,rfl,hgp,?_⟩|refine aC ?_ ?_<;>intro<;>try omega|refine z1_Qad ?_|refine⟨s.c,rfl,by omega,?_⟩|refine⟨_,hgd,?_⟩|refine And.intro (by omega) ?_|fail);all_goals try (conv=>whnf)
    exact⟨(k,⟨(s.c+1)%N,false,s.d⟩),[0,1,2,3,4,5,6],⟨hn,hr⟩,by dsimp only;omega,by rw [etm];(exact aL)⟩
  |false=>
   rw [hdqf hbb]at hr hn hdq
   rw [upd_same]at hr hn hdq
   by_cases hz:(sz p i:Int)≤s.d s.c+q.getD s.c 0
   ·rw [if_pos hz]at hr
    (repeat' (conv=>whnf);first|refine⟨i,_,rfl,hgp,?_⟩|refine aC ?_ ?_<;>intro<;>try omega|refine z1_Qad ?_|refine⟨s.c,rfl,by omega,?_⟩|refine⟨_,hgd,?_⟩|refine⟨s.c,_,rfl,hgq,?_⟩|refine⟨s.c,rfl,by rw [List.length_set];omega,?_⟩|refine⟨_,hgd3,?_⟩|fail);all_goals try (conv=>whnf)
    exact⟨by rw [←hr,ivs_set,ivs_set,←hz2];rfl,by rw [←hr];rfl⟩
   ·rw [if_neg hz]at hr
    have hn:=hn (by omega)
    (repeat' (conv=>whnf);first|refine⟨i,_,rfl,hgp,?_⟩|refine aC ?_ ?_<;>intro<;>try omega|refine z1_Qad ?_|refine⟨s.c,rfl,by omega,?_⟩|refine⟨_,hgd,?_⟩|refine And.intro (by omega) ?_|refine⟨s.c,_,rfl,hgq,?_⟩|refine⟨s.c,rfl,by rw [List.length_set];omega,?_⟩|refine⟨_,hgd3,?_⟩|fail);all_goals try (conv=>whnf)
    exact⟨(k,⟨(s.c+1)%N,false,upd s.d s.c (s.d s.c+q.getD s.c 0)⟩),[0,1,2,3,4,5,6],⟨hn,hr⟩,by dsimp only;omega,by rw [etm,ivs_set];(exact aL)⟩
end
section
open Go.Sx Go.Pk Go.Mc
def aftI (L:Nat):Option Nat→Int
 |none=>L
 |some n=>(n:Int)-1
theorem z1_Qas {G H:Prop} (k:H) (h:H→G:=by first|exact fun r=>aS r|exact fun r=>aG r|exact fun r=>aD r|exact fun r=>aH r|exact fun r=>aP_T1 r|exact fun r=>aI r|exact fun r=>aJ r|exact fun r=>aW (.qs [0,1,2,3,4,5,6,7,8,9,10,11,12,13,14,15,16,17,18,19,20,21,22,23] .nil) r):G:=h k
theorem After_ok (tb:List Int) (t:Nat) (ht:t≤2000) (h0:tb≠[]) (hl:tb.length≤1000):
  Ctr Tryz.prog 194 [.psl 1 (ints tb),i64 t] [] (fun r o=>o=[]∧r=i64 (aftI tb.length (ahd tb (tb.getD (t%tb.length) 0) t tb.length))):=by
 refine fI 0 Tryz.func194 ?_
 have hil:=ints_len tb
 have hlp:0<tb.length:=List.length_pos_iff.2 h0
 have hm0:t%tb.length<tb.length:=Nat.mod_lt _ hlp
 have hg0:=ints_get hm0
 generalize hc:tb.getD (t%tb.length) 0=c at*
 (repeat' (conv=>whnf);first|refine aC ?_ ?_<;>intro<;>try omega|refine z1_Qas ?_|fail);all_goals try (conv=>whnf)
 have hj0:∀j,j<0+1→tb.getD ((t+j)%tb.length) 0=c:=fun j hj=>by
  obtain rfl:j=0:=by omega
  exact hc
 refine LoopOb.mk (Y:=Nat) (st:=fun n=>⟨[(5,i64 n),(0, .psl 1 (ints tb)),(1,i64 t)],[]⟩)
  (inv:=fun n=>n≤tb.length∧∀j,j<n+1→tb.getD ((t+j)%tb.length) 0=c) (fun n=>tb.length-n) 0 [] ⟨by omega,hj0⟩ (by(exact aL)) ?_
 rintro n ⟨hn,hj⟩
 have hst:tb.getD ((t+(n+1))%tb.length) 0=c→∀j,j<n+1+1→tb.getD ((t+j)%tb.length) 0=c:=fun h j hj2=>by
  by_cases e:j=n+1
  ·subst e;exact h
  ·exact hj j (by omega)
 have hml:(t+(n+1))%tb.length<tb.length:=Nat.mod_lt _ hlp
 have hgv:=ints_get hml
 have et1:((t:Int)+1+n).tmod (ints tb).length =((t+(n+1))%tb.length:Nat):=by rw [hil,Int.tmod_eq_emod_of_nonneg (by omega),show(t:Int)+1+n=((t+(n+1):Nat):Int)by omega];rfl
 have et0:((t:Int)).tmod (ints tb).length =(t%tb.length:Nat):=by rw [hil,Int.tmod_eq_emod_of_nonneg (by omega)];rfl
 have hend:n=tb.length→ahd tb c t tb.length=none:=fun e=>ahd_none fun j hj2=>hj j (by omega)
 have hbrk:n<tb.length→tb.getD ((t+(n+1))%tb.length) 0≠c→ahd tb c t tb.length=some (n+1):=fun h1 h2=>by
  refine ahd_step (fun j hj2=>hj j hj2) h2 ?_
  by_cases e:n+1=tb.length
  ·rw [e,Nat.add_mod_right]at h2;exact absurd hc h2
  ·omega
 generalize tb.getD ((t+(n+1))%tb.length) 0=v at*
 by_cases hlt:n<tb.length
 ·by_cases hv:v=c
  ·(repeat' (conv=>whnf);first|refine⟨_,_,et0,hg0,?_⟩|refine⟨_,_,et1,hgv,?_⟩|refine aC ?_ ?_<;>intro<;>try omega|refine z1_Qas ?_|refine And.intro (by omega) ?_|fail);all_goals try (conv=>whnf)
   all_goals first
    |exact⟨n+1,[],⟨by omega,hst hv⟩,by omega,by(exact aL)⟩
    |exact absurd hv (by assumption)
  ·have e:=hbrk hlt hv
   (repeat' (conv=>whnf);first|refine⟨_,_,et0,hg0,?_⟩|refine⟨_,_,et1,hgv,?_⟩|refine aC ?_ ?_<;>intro<;>try omega|refine z1_Qas ?_|refine And.intro (by omega) ?_|fail);all_goals try (conv=>whnf)
   all_goals first
    |exact absurd (by assumption) hv
    |exact⟨rfl,by rw [e];simp [aftI,oneS]⟩
 ·have e:=hend (by omega)
  obtain rfl:n=tb.length:=by omega
  (repeat' (conv=>whnf);first|refine aC ?_ ?_<;>intro<;>try omega|refine z1_Qas ?_|fail);all_goals try (conv=>whnf)
  exact⟨rfl,by rw [e];rfl⟩
def romI (c left:Int):Option Nat→Int
 |none=>1073741824
 |some n=>left+c*((n:Int)-1)
theorem ahd_pos {tb:List Int} {t:Nat} {c:Int} (hc:tb.getD (t%tb.length) 0=c):∀{k n:Nat},ahd tb c t k=some n→1≤n
 |0,n,h=>by cases h
 |k+1,n,h=>by
  simp only [ahd]at h
  split at h
  ·rename_i j hj
   have:=ahd_pos hc hj
   simp only [Option.some.injEq]at h
   omega
  ·split at h
   ·rename_i hne
    simp only [Option.some.injEq]at h
    rcases Nat.eq_zero_or_pos n with e|e
    ·rw [←h]at e;rw [e,Nat.add_zero]at hne;exact absurd hc hne
    ·exact e
   ·cases h
theorem Room_ok (cap:Nat) (hcap:cap≤4000) (tb:List Int) (t left:Nat) (ht:t≤2000) (hle:left≤4000) (h0:tb≠[]) (hl:tb.length≤1000):
  Ctr Tryz.prog 174 [i64 cap, .psl 1 (ints tb),i64 t,i64 left] [] (fun r o=>o=[]∧r=i64 (romI cap left (ahd tb (tb.getD (t%tb.length) 0) t tb.length))):=by
 refine fI 0 Tryz.func174 ?_
 have hil:=ints_len tb
 (repeat' (conv=>whnf);first|refine aC ?_ ?_<;>intro<;>try omega|refine z2_T1 ?_|fail);all_goals try (conv=>whnf)
 refine aK [] (After_ok tb t ht h0 hl) ?_
 cases ha:ahd tb (tb.getD (t%tb.length) 0) t tb.length with
 |none=>
  have e:aftI tb.length none=tb.length:=rfl
  rw [e]
  (repeat' (conv=>whnf);first|refine aC ?_ ?_<;>intro<;>try omega|refine z2_T1 ?_|fail);all_goals try (conv=>whnf)
  exact⟨rfl,rfl⟩
 |some n=>
  have e:aftI tb.length (some n)=(n:Int)-1:=rfl
  have hnl:=ahd_lt ha
  have hn1:=ahd_pos rfl ha
  rw [e]
  have hM:0≤(cap:Int)*((n:Int)-1)∧(cap:Int)*((n:Int)-1)≤4000000:=by
   constructor
   ·exact Int.mul_nonneg (by omega) (by omega)
   ·have h2:(cap:Int)*((n:Int)-1)≤4000*1000:=Int.mul_le_mul (by omega) (by omega) (by omega) (by omega)
    omega
  (repeat' (conv=>whnf);first|refine aC ?_ ?_<;>intro<;>try omega|refine z2_T1 ?_|refine ArOb.fits (by omega) ?_|fail);all_goals try (conv=>whnf)
  exact⟨rfl,rfl⟩
end
section
open Go.Sx Go.Pk Go.Mc
theorem RRightR_ok (wl:List Int) (hl:wl.length≤1000) (hw:∀c,c<wl.length→1≤wl.getD c 0∧wl.getD c 0≤20):Ctr Tryz.prog 167 [.psl 1 (ints wl)] [] (fun r o=>o=[]∧r= .bl true):=by
 refine fI 0 Tryz.func167 ?_
 have hil:=ints_len wl
 (repeat' (conv=>whnf);first|refine aC ?_ ?_<;>intro<;>try omega|refine z2_T1 ?_|fail);all_goals try (conv=>whnf)
 refine LoopOb.mk (Y:=Nat) (st:=fun i=>⟨[(3,i64 i),(0, .psl 1 (ints wl))],[]⟩) (inv:=fun i=>i≤wl.length) (fun i=>wl.length-i) 0 [] (by omega) (by(exact aL)) ?_
 rintro i hi
 by_cases hlt:i<wl.length
 ·have hg:=ints_get hlt
  have hb:=hw i hlt
  generalize wl.getD i 0=x at*
  (repeat' (conv=>whnf);first|refine⟨i,_,rfl,hg,?_⟩|refine aC ?_ ?_<;>intro<;>try omega|refine z2_T1 ?_|fail);all_goals try (conv=>whnf)
  exact⟨i+1,[],by omega,by omega,by(exact aL)⟩
 ·(repeat' (conv=>whnf);first|refine aC ?_ ?_<;>intro<;>try omega|refine z2_T1 ?_|fail);all_goals try (conv=>whnf)
  exact⟨rfl,rfl⟩
theorem RRightD_ok (wl:List Int) (hl:wl.length≤1000) (hw:∀c,c<wl.length→1≤wl.getD c 0∧wl.getD c 0≤6000):Ctr Tryz.prog 171 [.psl 1 (ints wl)] [] (fun r o=>o=[]∧r= .bl true):=by
 refine fI 0 Tryz.func171 ?_
 have hil:=ints_len wl
 (repeat' (conv=>whnf);first|refine aC ?_ ?_<;>intro<;>try omega|refine z2_T1 ?_|fail);all_goals try (conv=>whnf)
 refine LoopOb.mk (Y:=Nat) (st:=fun i=>⟨[(3,i64 i),(0, .psl 1 (ints wl))],[]⟩) (inv:=fun i=>i≤wl.length) (fun i=>wl.length-i) 0 [] (by omega) (by(exact aL)) ?_
 rintro i hi
 by_cases hlt:i<wl.length
 ·have hg:=ints_get hlt
  have hb:=hw i hlt
  generalize wl.getD i 0=x at*
  (repeat' (conv=>whnf);first|refine⟨i,_,rfl,hg,?_⟩|refine aC ?_ ?_<;>intro<;>try omega|refine z2_T1 ?_|fail);all_goals try (conv=>whnf)
  exact⟨i+1,[],by omega,by omega,by(exact aL)⟩
 ·(repeat' (conv=>whnf);first|refine aC ?_ ?_<;>intro<;>try omega|refine z2_T1 ?_|fail);all_goals try (conv=>whnf)
  exact⟨rfl,rfl⟩
theorem RBegR_ok (wl:List Int) (hl:1≤wl.length):Ctr Tryz.prog 168 [.psl 1 (ints wl)] [] (fun r o=>o=[]∧r=rdV (0,wl.getD 0 0)):=by
 refine fI 0 Tryz.func168 ?_
 have hg:=ints_get (l:=wl) (j:=0) (by omega)
 (repeat' (conv=>whnf);first|refine⟨0,_,rfl,hg,?_⟩|refine aC ?_ ?_<;>intro<;>try omega|refine z2_T1 ?_|fail);all_goals try (conv=>whnf)
 exact⟨rfl,rfl⟩
theorem RBegD_ok (wl:List Int) (hl:wl.length≤1000):Ctr Tryz.prog 172 [.psl 1 (ints wl)] [] (fun r o=>o=[.box [i64 0, .bl false, .vec 1], .vec 1 (ivs wl.length fun _=>0)]∧r= .agg [i64 0, .bl false, .vec 1]):=by
 refine fI 0 Tryz.func172 ?_
 have hil:=ints_len wl
 have hr:List.replicate (ints wl).length [i64 0]=ivs wl.length (fun _=>0):=by rw [hil];exact ivs_rep _ 0
 (repeat' (conv=>whnf);first|refine aC ?_ ?_<;>intro<;>try omega|refine z2_T1 ?_|refine⟨_,_,rfl,rfl,Nat.le_refl _,⟨by(simp only;omega),by omega⟩,?_⟩|fail);all_goals try (conv=>whnf)
 exact⟨by rw [←hr];rfl,rfl⟩
end
end Go.Proofs.YtaomhdljcdadaaaGreat
