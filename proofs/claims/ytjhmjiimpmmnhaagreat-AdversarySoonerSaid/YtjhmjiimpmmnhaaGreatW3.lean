/- Lemmas of this seat. Conditions: as stated. -/
import Derived.Test.YtjhmjiimpmmnhaaGreatJ8
import Derived.Test.YtjhmjiimpmmnhaaGreatPl
import Derived.Test.YtjhmjiimpmmnhaaGreatT1
set_option linter.unusedVariables false
set_option linter.unusedSimpArgs false
set_option maxHeartbeats 2000000
set_option maxRecDepth 8000
namespace Go.Proofs.YtjhmjiimpmmnhaaGreat
section
open Go.Sx Go.Cv
theorem WAt_ok (vs:List Int) (p:Nat) (q t:Int) (hb:Bd vs p q) (ht:0≤t) (ht2:t≤1048576):
  Ctr Tryz.prog 93 [crv vs p q,i64 t] [] (fun r o=>o=[]∧r=i64 (val vs p q t.toNat)):=by
 obtain⟨p1,pn,hn,q0,q1,hv⟩:=hb
 obtain⟨t,rfl⟩:=Int.eq_ofNat_of_zero_le ht
 simp only [Int.toNat_natCast]
 refine fI 0 Tryz.func93 ?_
 (repeat' (conv=>whnf);first|refine aC ?_ ?_<;>intro _|refine z2_T1 ?_|fail);all_goals try (conv=>whnf)
 all_goals try (simp only [ints_len]at*)
 all_goals try omega
 ·exact⟨trivial,by simp only [oneS];rw [val_lt (by omega)]⟩
 ·have hle:vs.length≤t:=by omega
  have e1:((t:Int)-vs.length).tdiv p=((t-vs.length)/p:Nat):=by
   rw [Int.tdiv_eq_ediv_of_nonneg (by omega)]
   push_cast [Int.ofNat_sub hle];rfl
  have hx:=at_idx hle p1 pn
  have hd:(t-vs.length)/p≤t-vs.length:=Nat.div_le_self _ _
  have hval:val vs p q t=if vs.getD (t-((t-vs.length)/p+1)*p) 0=INF then INF else vs.getD (t-((t-vs.length)/p+1)*p) 0+((t-vs.length)/p+1:Nat)*q:=by
   simp only [val];rw [if_neg (by omega)]
  rw [hval,e1]
  generalize (t-vs.length)/p=k at*
  have e3:((k:Int)+1)*(p:Int)=((k+1)*p:Nat):=by push_cast;rfl
  have hkq:=mul_bd (a:=(k:Int)+1) (b:=q) (A:=1048577) (B:=1099511627776) (by omega) (by omega) (by omega) (by omega)
  have hv1:=hv ((t:Int)-((k:Int)+1)*p).toNat
  refine⟨by omega,?_⟩
  (repeat' (conv=>whnf);first|refine aC ?_ ?_<;>intro _|refine z2_T1 ?_|fail);all_goals try (conv=>whnf)
  all_goals rw [show((t:Int)-((k:Int)+1)*p).toNat =t-(k+1)*p by omega]at*
  ·exact⟨rfl,by simp only [oneS];rw [if_pos (by assumption)];congr 1⟩
  ·exact⟨rfl,by simp only [oneS];rw [if_neg (by assumption)];push_cast;rfl⟩
theorem z2_W3 {G H:Prop} (k:H) (h:H→G:=by first|exact fun r=>aS r|exact fun r=>aG r|exact fun r=>aD r|exact fun r=>aH r|exact fun r=>aP_T1 r|exact fun r=>aI r|exact fun r=>aJ r|exact fun r=>aW (.qs [0,1,2,3,4,5,6,7,8,9,10,11,12,13] .nil) r):G:=h k
theorem CValid_ok (vs:List Int) (p i:Int) (hlv:vs.length≤140737488355328):
  Ctr Tryz.prog 39 [crv vs p i] [] (fun r o=>o=[]∧r= .bp (ValidP vs p i)):=by
 refine Ctr.imp ?_
 refine fI 0 Tryz.func39 ?_
 (repeat' (conv=>whnf);first|refine aC ?_ ?_<;>intro _|refine z2_W3 ?_|fail);all_goals try (conv=>whnf)
 all_goals try (refine And.intro rfl (Imp.bl ⟨fun h=>(by cases h),fun h=>?_⟩);simp only [ints_len]at*;simp only [ValidP]at h;omega)
 rename_i h1 h2 h3 h4 h5 h6 h7
 simp only [ints_len]at*
 have bd:∀j,j<vs.length→(∀k<j+1,vs.getD k 0=INF∨0≤vs.getD k 0∧vs.getD k 0≤1073741824)→True:=fun _ _ _=>trivial
 refine LoopOb.mk (Y:=Nat) (st:=fun j=>⟨[(45,i64 j),(44,i64 vs.length),(43, .psl 1 (ints vs)),(4,i64 (if j=0 then 0 else vs.getD (j-1) 0)),(3,i64 vs.length),(1, .ptr 0 0)],[.box [.psl 1 (ints vs), .num .i64 p, .num .i64 i]]⟩)
  (inv:=fun j=>j≤vs.length∧(∀k<j,vs.getD k 0=4611686018427387904∨0≤vs.getD k 0∧vs.getD k 0≤1073741824)∧(∀k,k+1<j→vs.getD k 0≤vs.getD (k+1) 0)) (fun j=>vs.length-j) 0 [0] ⟨by omega,fun k hk=>by omega,fun k hk=>by omega⟩ (by(exact aL)) ?_
 rintro j ⟨hj,hv,hm⟩
 have hlast:j≠0→vs.getD (j-1) 0=4611686018427387904∨0≤vs.getD (j-1) 0∧vs.getD (j-1) 0≤1073741824:=fun h=>hv (j-1) (by omega)
 (repeat' (conv=>whnf);first|refine aC ?_ ?_<;>intro _|refine z2_W3 ?_|fail);all_goals try (conv=>whnf)
 all_goals try (
  refine And.intro rfl (Imp.bl ⟨fun h=>(by cases h),fun h=>?_⟩)
  obtain⟨_,_,_,_,_,_,_,q1,q2,q3,_⟩:=h
  have q1:=q1 j
  have q2:=q2 (j-1)
  rcases Nat.eq_zero_or_pos j with h0|h0
  ·subst h0;simp only [if_true,Nat.zero_sub]at*;omega
  ·try rw [if_neg (show¬j=0 by omega)]at*
   rw [show j-1+1=j by omega]at q2
   omega)
 all_goals try (
  refine⟨j+1,[0],⟨by omega,fun k hk=>?_,fun k hk=>?_⟩,by omega,?_⟩
  ·by_cases hkj:k=j
   ·subst hkj
    rcases Nat.eq_zero_or_pos k with h0|h0
    ·subst h0;simp only [if_true]at*;omega
    ·rw [if_neg (show¬k=0 by omega)]at*;omega
   ·exact hv k (by omega)
  ·by_cases hkj:k+1=j
   ·subst hkj;rw [if_neg (show¬k+1=0 by omega)]at*;simp only [Nat.add_sub_cancel]at*;omega
   ·exact hm k (by omega)
  ·refine Le.mk (by kernel_rfl) ?_ ?_<;>repeat' (first|exact True.intro|refine And.intro ?_ ?_|exact Imp.refl _|exact Imp.any _|exact Imp.num (by omega)|exact rfl|exact Imp.num (by simp)))
 all_goals have hjl:j=vs.length:=by omega
 all_goals subst hjl
 all_goals rw [if_neg (show¬vs.length=0 by omega)]at*
 ·have hx2:vs.getD (vs.length-1) 0=4611686018427387904:=by assumption
  have hp:p=1:=by assumption
  exact⟨rfl,Imp.bp ⟨fun h=>⟨by omega,by omega,by omega,by omega,by omega,by omega,by omega,hv,hm,fun _=>⟨hp,h⟩,fun h'=>absurd hx2 h'⟩,fun h=>by obtain⟨_,_,_,_,_,_,_,_,_,q3,_⟩:=h;exact(q3 hx2).2⟩⟩
 ·have hx2:vs.getD (vs.length-1) 0=4611686018427387904:=by assumption
  refine⟨rfl,Imp.bl ⟨fun h=>(by cases h),fun h=>?_⟩⟩
  obtain⟨_,_,_,_,_,_,_,_,_,q3,_⟩:=h
  have:=(q3 hx2).1
  omega
 ·have hx2:¬vs.getD (vs.length-1) 0=4611686018427387904:=by assumption
  have hq:=hv (vs.length-p).toNat (by omega)
  refine ArOb.fits (by omega) ?_
  (repeat' (conv=>whnf);first|refine aC ?_ ?_<;>intro _|refine z2_W3 ?_|fail);all_goals try (conv=>whnf)
  rw [show(vs.length-p:Int).toNat =vs.length-p.toNat by omega]at*
  exact⟨rfl,Imp.bp ⟨fun h=>⟨by omega,by omega,by omega,by omega,by omega,by omega,by omega,hv,hm,fun h'=>absurd h' hx2,fun _=>h⟩,fun h=>by obtain⟨_,_,_,_,_,_,_,_,_,_,q4⟩:=h;exact q4 hx2⟩⟩
end
section
open Go.Sx Go.Cv
theorem vc_bd {a:C3} (h:VC a) {t:Nat} (ht:t≤1048576):0≤cv a t∧cv a t≤6000000000000000000:=val_bd (bd_of h) ht
end
section
open Go.Sx Go.Pk Go.Cv Go.St
theorem aP_C1 {A B K:Prop} (k:K) (a:A:=by(simp only [zA,zT,zD,zC,zN,ints_len,zR,pks_len,Go.Cv.vals_len];omega)) (b:B:=by(simp only [zA,zT,zD,zC,zN,ints_len,zR,pks_len,Go.Cv.vals_len];omega)):(A∧B)∧K:=⟨⟨a,b⟩,k⟩
theorem z1_C1 {G H:Prop} (k:H) (h:H→G:=by first|exact fun r=>aS r|exact fun r=>aG r|exact fun r=>aD r|exact fun r=>aH r|exact fun r=>aP_C1 r|exact fun r=>aI r|exact fun r=>aJ r):G:=h k
theorem end_ok (p : List Pk) (hv : Vld p) : Ctr Tryz.prog 173 [.psl 3 (pks p)] [] (fun r o => o = [] ∧ r = i64 (endN p)) := by
  refine fI 0 Tryz.func173 ?_
  have hpl := pks_len p
  have hp := hv.l
  have hb : ∀ h : 0 < p.length, ¬bad (p.getD (p.length - 1) pk0) := fun h => hv.g _ (by omega)
  have hg : ∀ h : 0 < p.length, (pks p)[p.length - 1]? = some (pkw (p.getD (p.length - 1) pk0)) := fun h => pks_get (by omega)
  have e0 : p.length = 0 → endN p = 0 := fun h => by unfold endN; rw [h]
  have e1 : 0 < p.length → endN p = ((p.getD (p.length - 1) pk0).t + 1).toNat := fun h => by
    obtain ⟨n, hn⟩ : ∃ n, p.length = n + 1 := ⟨p.length - 1, by omega⟩
    unfold endN; rw [hn]; rfl
  unfold bad at hb
  generalize p.getD (p.length - 1) pk0 = x at *
  (repeat' (conv => whnf); first | refine ⟨p.length - 1, _, by omega, hg (by omega), ?_⟩ | refine aC ?_ ?_ <;> intro <;> try omega | refine z1_C1 ?_ | fail); all_goals try (conv => whnf)
  all_goals first
    | exact ⟨rfl, by rw [e0 (by omega)]; rfl⟩
    | (have h1 := e1 (by omega)
       have h2 := hb (by omega)
       exact ⟨rfl, by rw [h1, Int.toNat_of_nonneg (by omega)]; rfl⟩)
    | trace_state
theorem z2_C1 {G H:Prop} (k:H) (h:H→G:=by first|exact fun r=>aS r|exact fun r=>aG r|exact fun r=>aD r|exact fun r=>aP_C1 r|exact fun r=>aI r|exact fun r=>aJ r):G:=h k
theorem Table_ok (f:C3) (hf:VC f) (n:Nat) (hn:n≤100000):Ctr Tryz.prog 136 [crv f.1 f.2.1 f.2.2,i64 n] [] (fun r o=>o=[]∧r= .psl 1 (ints (vals (cv f) n))):=by
 refine Ctr.imp ?_
 refine fI 0 Tryz.func136 ?_
 (repeat' (conv=>whnf);first|refine AsgOb.nil ?_|refine aC ?_ ?_<;>intro<;>try omega|refine z1_C1 ?_|refine⟨_,_,rfl,rfl,Nat.le_refl _,⟨by(simp only;omega),by omega⟩,?_⟩|fail);all_goals try (conv=>whnf)
 have hz:=rowsAt_zero (cv f) n
 refine LoopOb.mk (Y:=Nat) (st:=fun t=>⟨[(11,i64 t),(10,i64 n),(5, .vec 1),(2, .ptr 0 0)],[.box [.psl 1 (ints f.1),i64 f.2.1,i64 f.2.2], .vec 1 (ints (rowsAt (cv f) t n))]⟩)
  (inv:=fun t=>t≤n) (fun t=>n-t) 0 [0,1] (by omega) (by dsimp only;rw [hz];refine Le.mk (by kernel_rfl) ?_ ?_<;>repeat' (first|exact True.intro|refine And.intro ?_ ?_|exact Imp.refl _|exact Imp.any _|exact Imp.num (by simp)|exact rfl)) ?_
 intro t ht
 have hl:=rowsAt_len (cv f) ht
 have hil:=ints_len (rowsAt (cv f) t n)
 (repeat' (conv=>whnf);first|refine z1_C1 ?_|fail);all_goals try (conv=>whnf)
 refine CondOb.mk (fun hlt=>?_) (fun hlt=>?_)
 ·have htn:t<n:=by omega
  have hs:=rowsAt_set (cv f) htn
  (repeat' (conv=>whnf);first|refine⟨_,ints_get (by omega),?_⟩|refine⟨t,by omega,by omega,?_⟩|refine aC ?_ ?_<;>intro<;>try omega|refine z1_C1 ?_|(refine aK [] (WAt_ok f.1 f.2.1 f.2.2 t (bd_of hf) (by omega) (by omega)) ?_)|fail);all_goals try (conv=>whnf)
  exact⟨t+1,[0,1],by omega,by omega,by rw [←hs];(exact aL)⟩
 ·have e:t=n:=by omega
  subst e
  rw [rowsAt_full]
  (repeat' (conv=>whnf);first|refine aC ?_ ?_<;>intro<;>try omega|refine z2_C1 ?_|fail);all_goals try (conv=>whnf)
  refine .mk [.fz 1] ?_
  (repeat' (conv=>whnf);first|refine aC ?_ ?_<;>intro<;>try omega|refine z1_C1 ?_|fail);all_goals try (conv=>whnf)
  exact⟨rfl,Imp.refl _⟩
theorem sums_ok (p:List Pk) (hv:Vld p) (flow:Int):Ctr Tryz.prog 135 [.psl 3 (pks p),i64 flow] [] (fun r o=>o=[]∧r= .psl 1 (ints (vals (csm p flow) (endN p+1)))):=by
 refine Ctr.imp ?_
 refine fI 0 Tryz.func135 ?_
 have hp:=hv.l
 have hN:endN p≤2001:=by
  unfold endN
  split
  ·omega
  ·rename_i i hi
   have:=hv.g i (by omega)
   unfold bad at this;omega
 obtain⟨n,hn⟩:∃n,endN p+1=n:=⟨_,rfl⟩
 have hni:((endN p:Nat):Int)+1=n:=by omega
 rw [hn]
 have hz:=rowsAt_zero (csm p flow) n
 (repeat' (conv=>whnf);first|refine AsgOb.nil ?_|refine aC ?_ ?_<;>intro<;>try omega|refine z1_C1 ?_|(refine aK [] (end_ok p hv) ?_)|fail);all_goals try (conv=>whnf)
 rw [hni]
 (repeat' (conv=>whnf);first|refine aC ?_ ?_<;>intro<;>try omega|refine z1_C1 ?_|refine⟨_,_,rfl,rfl,Nat.le_refl _,⟨by(simp only;omega),by omega⟩,?_⟩|fail);all_goals try (conv=>whnf)
 refine LoopOb.mk (Y:=Nat) (st:=fun t=>⟨[(13,i64 t),(12,i64 n),(5, .vec 0),(0, .psl 3 (pks p)),(1,i64 flow)],[.vec 1 (ints (rowsAt (csm p flow) t n))]⟩)
  (inv:=fun t=>t≤n) (fun t=>n-t) 0 [0] (by omega) (by dsimp only;rw [hz];refine Le.mk (by kernel_rfl) ?_ ?_<;>repeat' (first|exact True.intro|refine And.intro ?_ ?_|exact Imp.refl _|exact Imp.any _|exact Imp.num (by simp)|exact rfl)) ?_
 intro t ht
 have hl:=rowsAt_len (csm p flow) ht
 have hil:=ints_len (rowsAt (csm p flow) t n)
 (repeat' (conv=>whnf);first|refine z1_C1 ?_|fail);all_goals try (conv=>whnf)
 refine CondOb.mk (fun hlt=>?_) (fun hlt=>?_)
 ·have htn:t<n:=by omega
  have hs:=rowsAt_set (csm p flow) htn
  (repeat' (conv=>whnf);first|refine⟨_,ints_get (by omega),?_⟩|refine⟨t,by omega,by omega,?_⟩|refine aC ?_ ?_<;>intro<;>try omega|refine z1_C1 ?_|(refine aK [] (Bytes_ok p (by omega) hv.sml flow t) ?_)|fail);all_goals try (conv=>whnf)
  exact⟨t+1,[0],by omega,by omega,by rw [←hs];(exact aL)⟩
 ·have e:t=n:=by omega
  subst e
  rw [rowsAt_full]
  (repeat' (conv=>whnf);first|refine aC ?_ ?_<;>intro<;>try omega|refine z2_C1 ?_|fail);all_goals try (conv=>whnf)
  refine .mk [.fz 0] ?_
  (repeat' (conv=>whnf);first|refine aC ?_ ?_<;>intro<;>try omega|refine z1_C1 ?_|fail);all_goals try (conv=>whnf)
  exact⟨rfl,Imp.refl _⟩
theorem cCheck_ok (p:List Pk) (hv:Vld p) (flow:Int) (hf: -1≤flow) (f:C3) (vf:VC f):Ctr Tryz.prog 134 [.psl 3 (pks p),i64 flow,crv f.1 f.2.1 f.2.2] [] (fun r o=>o=[]∧r=i64 0):=by
 refine fI 0 Tryz.func134 ?_
 have hp:=hv.l
 have cV:=Validate_ok p (by omega)
 rw [vld_zero.2 hv]at cV
 have hV:ValidP f.1 f.2.1 f.2.2:=vf.valid
 (repeat' (conv=>whnf);first|refine aC ?_ ?_<;>intro<;>try omega|refine z1_C1 ?_|(refine aK [] cV ?_)|(refine aK [] (CValid_ok f.1 f.2.1 f.2.2 (by have:=vf.n2;omega)) ?_)|fail);all_goals try (conv=>whnf)
 all_goals first
  |exact⟨rfl,rfl⟩
  |exact absurd hV (by assumption)
  |trace_state
end
section
open Go.Sx Go.Pk Go.Cv Go.St
theorem vint {F:Nat→Int} {n t:Nat} (h:t<n):(ints (vals F n))[t]? =some [i64 (F t)]:=by
 have:=ints_get (l:=vals F n) (j:=t) (by rw [vals_len];exact h)
 rw [vals_get h]at this;exact this
theorem endN_le {p:List Pk} (hv:Vld p):endN p≤2001:=by
 have hp:=hv.l
 unfold endN
 split
 ·omega
 ·rename_i i hi
  have:=hv.g i (by omega)
  unfold bad at this;omega
def VioR (A F:Nat→Int) (N:Nat) (x:Int×Int×Bool):Prop:=
 (∃s t:Nat,s<t∧t≤N∧F (t-s)<A t-A s∧x=((s:Int),(t:Int),true))∨(Kp A F N∧x=(0,0,false))
theorem z1_C2 {G H:Prop} (k:H) (h:H→G:=by first|exact fun r=>aS r|exact fun r=>aG r|exact fun r=>aD r|exact fun r=>aH r|exact fun r=>aP_C1 r|exact fun r=>aI r|exact fun r=>aJ r|exact fun r=>aW (.qs [0,1,2,3,4,5,6,7,8,9] .nil) r|exact fun r=>aW (.qs [0,1,2,3,4,5,6,7,8,9,10,11,12,13,14,15] .nil) r):G:=h k
theorem Violation_ok (p:List Pk) (hv:Vld p) (flow:Int) (hf: -1≤flow) (f:C3) (vf:VC f):Ctr Tryz.prog 112 [.psl 3 (pks p),i64 flow,crv f.1 f.2.1 f.2.2] [] (fun r o=>∃x:Int×Int×Bool,VioR (csm p flow) (cv f) (endN p) x∧o=[]∧r= .tup [i64 x.1,i64 x.2.1, .bl x.2.2,i64 0]):=by
 refine Ctr.impE ?_
 refine fI 0 Tryz.func112 ?_
 have hN:=endN_le hv
 have hC:=csm_cum hv flow
 have hA:=fun t=>csm_bd hv flow t
 have cS:=sums_ok p hv flow
 have cT:=Table_ok f vf (endN p+1) (by omega)
 have hF0:∀t,0≤cv f t:=fun t=>cv_nonneg vf t
 have hFm:∀{s t:Nat},s≤t→cv f s≤cv f t:=fun h=>vf.cvle h
 generalize csm p flow=A at*
 generalize endN p=N at*
 generalize hF:cv f=F at*
 have hal:(ints (vals A (N+1))).length =N+1:=by rw [ints_len,vals_len]
 have hwl:(ints (vals F (N+1))).length =N+1:=by rw [ints_len,vals_len]
 have hAg:=fun t (h:t<N+1)=>vint (F:=A) h
 have hFg:=fun t (h:t<N+1)=>vint (F:=F) h
 have hFb:∀t,t≤N→F t≤6000000000000000000:=fun t ht=>by rw [←hF];exact(vc_bd vf (by omega)).2
 generalize ints (vals A (N+1))=VA at*
 generalize ints (vals F (N+1))=VF at*
 (repeat' (conv=>whnf);first|refine aC ?_ ?_<;>intro<;>try omega|refine z1_C2 ?_|(refine aK [] (cCheck_ok p hv flow hf f vf) ?_)|(refine aK [] cS ?_)|(refine CallOb.mk [] cT rfl ⟨Imp.refl _,Imp.num (by omega),trivial⟩ rfl rfl ?_;rintro _ _ ⟨rfl,rfl⟩)|fail);all_goals try (conv=>whnf)
 refine LoopOb.mk (Y:=Nat) (st:=fun t=>⟨[(13,i64 t),(12, .psl 1 VF),(11, .psl 1 VA)],[]⟩)
  (inv:=fun t=>(1≤t∧t≤N+1)∧∀t',t'<t→∀s,s<t'→A t'-A s≤F (t'-s)) (fun t=>N+1-t) 1 [] ⟨by omega,fun t' h s hs=>by omega⟩ (by(exact aL)) ?_
 rintro t ⟨⟨ht1,ht⟩,hi⟩
 have hb1:=hA t
 have hb2:=hA (t-1)
 (repeat' (conv=>whnf);first|refine z1_C2 ?_|fail);all_goals try (conv=>whnf)
 refine CondOb.mk (fun hlt=>?_) (fun hlt=>?_)
 ·have htN:t≤N:=by omega
  have g1:=hAg t (by omega)
  have g2:=hAg (t-1) (by omega)
  have hskip:A t=A (t-1)→∀t',t'<t+1→∀s,s<t'→A t'-A s≤F (t'-s):=fun he t' h s hs=>by
   by_cases e:t'=t
   ·subst e
    by_cases e2:s=t'-1
    ·have:=hF0 (t'-s);rw [←e2]at he;omega
    ·have h1:=hi (t'-1) (by omega) s (by omega)
     have h2:=hFm (s:=t'-1-s) (t:=t'-s) (by omega)
     omega
   ·exact hi t' (by omega) s hs
  (repeat' (conv=>whnf);first|refine⟨t-1,_,by omega,g2,?_⟩|refine⟨t,_,rfl,g1,?_⟩|refine aC ?_ ?_<;>intro<;>try omega|refine z1_C2 ?_|fail);all_goals try (conv=>whnf)
  ·exact⟨t+1,[],⟨by omega,hskip (by assumption)⟩,by omega,by(exact aL)⟩
  ·refine LoopOb.mk (Y:=Nat) (st:=fun m=>⟨[(14,i64 ((t:Int)-1-m)),(13,i64 t),(12, .psl 1 VF),(11, .psl 1 VA)],[]⟩)
    (inv:=fun m=>m≤t∧∀s,s<t→t-1-m<s∨m=t→A t-A s≤F (t-s)) (fun m=>t-m) 0 [] ⟨by omega,fun s hs h=>by omega⟩ (by(exact aL)) ?_
   rintro m ⟨hm,hmi⟩
   (repeat' (conv=>whnf);first|refine z1_C2 ?_|fail);all_goals try (conv=>whnf)
   refine CondOb.mk (fun hl2=>?_) (fun hl2=>?_)
   ·obtain⟨s,hs⟩:∃s:Nat,(t:Int)-1-m=s:=⟨t-1-m,by omega⟩
    have g3:=hAg s (by omega)
    have g4:=hFg (t-s) (by omega)
    have hb3:=hA s
    have hb4:=hF0 (t-s)
    have hb5:=hFb (t-s) (by omega)
    have hm2:¬F (t-s)<A t-A s→∀s',s'<t→t-1-(m+1)<s'∨m+1=t→A t-A s'≤F (t-s'):=fun hn s' h1 h2=>by
     by_cases e:s'=s
     ·subst e;omega
     ·exact hmi s' h1 (by omega)
    (repeat' (conv=>whnf);first|refine⟨t-s,_,by omega,g4,?_⟩|refine⟨s,_,by omega,g3,?_⟩|refine⟨t,_,rfl,g1,?_⟩|refine aC ?_ ?_<;>intro<;>try omega|refine z1_C2 ?_|fail);all_goals try (conv=>whnf)
    ·exact⟨((s:Int),(t:Int),true), .inl ⟨s,t,by omega,by omega,by assumption,rfl⟩,rfl,Imp.tup ⟨Imp.num (by omega),Imp.refl _,Imp.refl _,Imp.refl _,trivial⟩⟩
    ·exact⟨m+1,[],⟨by omega,hm2 (by assumption)⟩,by omega,by(exact aL)⟩
   ·have e:m=t:=by omega
    (repeat' (conv=>whnf);first|refine aC ?_ ?_<;>intro<;>try omega|refine z1_C2 ?_|fail);all_goals try (conv=>whnf)
    exact⟨t+1,[],⟨by omega,fun t' h s hs=>by
     by_cases e2:t'=t
     ·subst e2;exact hmi s hs (by omega)
     ·exact hi t' (by omega) s hs⟩,by omega,by(exact aL)⟩
 ·have e:t=N+1:=by omega
  subst e
  (repeat' (conv=>whnf);first|refine aC ?_ ?_<;>intro<;>try omega|refine z1_C2 ?_|fail);all_goals try (conv=>whnf)
  exact⟨(0,0,false), .inr ⟨fun s t h1 h2=>hi t (by omega) s h1,rfl⟩,rfl,Imp.refl _⟩
theorem Keeps_ok (p:List Pk) (hv:Vld p) (flow:Int) (hf: -1≤flow) (f:C3) (vf:VC f):Ctr Tryz.prog 82 [.psl 3 (pks p),i64 flow,crv f.1 f.2.1 f.2.2] [] (fun r o=>o=[]∧r= .bp (Kp (csm p flow) (cv f) (endN p))):=by
 refine Ctr.imp ?_
 refine fI 0 Tryz.func82 ?_
 (repeat' (conv=>whnf);first|refine aC ?_ ?_<;>intro<;>try omega|refine z1_C1 ?_|fail);all_goals try (conv=>whnf)
 refine aM [] (Violation_ok p hv flow hf f vf) rfl rfl ?_
 rintro _ _ ⟨x,hx,rfl,rfl⟩
 rcases hx with⟨s,t,h1,h2,h3,rfl⟩|⟨hk,rfl⟩
 ·dsimp only
  (repeat' (conv=>whnf);first|refine aC ?_ ?_<;>intro<;>try omega|refine z1_C1 ?_|fail);all_goals try (conv=>whnf)
  exact⟨rfl,Imp.bl ⟨fun h=>(by cases h),fun h=>by have:=h s t h1 h2;omega⟩⟩
 ·dsimp only
  (repeat' (conv=>whnf);first|refine aC ?_ ?_<;>intro<;>try omega|refine z1_C1 ?_|fail);all_goals try (conv=>whnf)
  exact⟨rfl,Imp.bl ⟨fun _=>hk,fun _=>rfl⟩⟩
end
end Go.Proofs.YtjhmjiimpmmnhaaGreat
