/- Lemmas of this seat. Conditions: as stated. -/
import Derived.Test.YtbcjojomkibgeaaGreatN6
import Derived.Test.YtbcjojomkibgeaaGreatKs
set_option linter.unusedVariables false
set_option linter.unusedSimpArgs false
set_option maxHeartbeats 2000000
set_option maxRecDepth 4000
namespace Go.Proofs.YtbcjojomkibgeaaGreat
section
open Go.Sx Go.Np Go.Cv
theorem NL.lnat {n:Nt} (h:NL n) {i:Nat} (hi:i<n.ln.length):LL (n.ln.getD i ln0):=⟨(h.lw _ (getD_in hi)).1,(h.lw _ (getD_in hi)).2⟩
theorem NL.flat {n:Nt} (h:NL n) {i:Nat} (hi:i<n.fl.length):FL (n.fl.getD i fl0):=⟨(h.fs _ (getD_in hi)).1,(h.fs _ (getD_in hi)).2.1,(h.fs _ (getD_in hi)).2.2⟩
theorem mtw_take {l:List ByteArray} {i:Nat} (h:i<l.length) (h0:nmErr (l.take i) (l.getD i bs0)=0):mtw (l.take i) (l.getD i bs0)=l.take (i+1):=by
 unfold mtw;rw [if_pos h0,take_succ' (d:=bs0) h]
theorem flowE_eq (n:Nt) (i:Nat):flowE n i=if nmErr ((n.fl.take i).map (·.nm)) (n.fl.getD i fl0).nm ≠0 then nmErr ((n.fl.take i).map (·.nm)) (n.fl.getD i fl0).nm
 else if routeE n.ln (n.fl.getD i fl0)≠0 then routeE n.ln (n.fl.getD i fl0)else trf (n.fl.getD i fl0):=by unfold flowE trf;rfl
theorem nCheck_ok (n:Nt) (hn:NL n):Ctr Tryz.prog 50 [ntv n] [] (fun r o=>o=[]∧r=i64 (chkN n)):=by
 refine fI 0 Tryz.func50 ?_
 have h1:=hn.nm
 have h2:=hn.ln
 have h3:=hn.fl
 have hs:=stl n.nm
 have hll:=lnl n.ln
 have hfl:=fll n.fl
 (repeat' (conv=>whnf);first|refine aC ?_ ?_<;>intro<;>try omega|refine z1_Ks ?_|fail);all_goals try (conv=>whnf)
 ·exact⟨rfl,by unfold chkN;rw [if_pos (by omega)];rfl⟩
 ·exact⟨rfl,by unfold chkN;rw [if_pos (by omega)];rfl⟩
 ·exact⟨rfl,by unfold chkN;rw [if_pos (by omega)];rfl⟩
 ·exact⟨rfl,by unfold chkN;rw [if_neg (by omega),if_pos (by omega)];rfl⟩
 have g1:¬(n.ln.length=0∨8<n.ln.length∨10<n.fl.length):=by omega
 have g2:n.nm.length=n.ln.length:=by omega
 refine LoopOb.mk (Y:=Nat) (st:=fun i=>⟨[(41,i64 i),(40,i64 (lns n.ln).length),(39, .psl 5 (lns n.ln)),(3, .mp 1),(1, .ptr 0 0)],[.box [.psl 1 (strs n.nm), .psl 5 (lns n.ln), .psl 8 (fls n.fl)], .mapS (mtn (n.nm.take i))]⟩)
  (inv:=fun i=>i≤n.ln.length∧∀j<i,lineE n j=0) (fun i=>n.ln.length-i) 0 [0,1] ⟨by omega,by omega⟩ (by rw [List.take_zero];(exact aL)) ?_
 rintro i ⟨hi,hv⟩
 (repeat' (conv=>whnf);first|refine z1_Ks ?_|fail);all_goals try (conv=>whnf)
 refine CondOb.mk (fun hlt=>?_) (fun hlt=>?_)
 ·have hil:i<n.ln.length:=by omega
  have hE:lineE n i=if nmErr (n.nm.take i) (n.nm.getD i bs0)≠0 then nmErr (n.nm.take i) (n.nm.getD i bs0)else lnErr (n.ln.getD i ln0):=rfl
  have hst:lineE n i=0→∀j<i+1,lineE n j=0:=fun h j hj=>by
   by_cases e:j=i
   ·rw [e];exact h
   ·exact hv j (by omega)
  have hat:lineE n i≠0→chkN n=lineE n i:=fun h=>chkN_line g1 g2 hil hv h
  have hg:=lng hil
  have hsg:=stg (l:=n.nm) (i:=i) (by omega)
  have hL:=hn.lnat hil
  have hS:=hn.ns _ (getD_in (d:=bs0) (show i<n.nm.length by omega))
  have ht:=mtw_take (l:=n.nm) (i:=i) (by omega)
  generalize n.ln.getD i ln0=l at*
  have cF:=fresh_ok (n.nm.take i) (n.nm.getD i bs0) hS
  generalize n.nm.getD i bs0=s at*
  generalize nmErr (n.nm.take i) s=e1 at*
  have cL:=lCheck_ok l hL
  generalize lnErr l=e2 at*
  generalize lineE n i=E at*
  (repeat' (conv=>whnf);first|refine aC ?_ ?_<;>intro<;>try omega|refine z1_Ks ?_|refine⟨i,_,rfl,hg,?_⟩|refine⟨i,_,rfl,hsg,?_⟩|(refine aK [1] cF ?_)|(refine aK [] cL ?_)|fail);all_goals try (conv=>whnf)
  all_goals first
   |exact⟨rfl,by rw [if_pos (by assumption)]at hE;rw [hat (by omega),hE];rfl⟩
   |exact⟨rfl,by rw [if_neg (by assumption)]at hE;rw [hat (by omega),hE];rfl⟩
   |(rw [if_neg (by assumption)]at hE;exact⟨i+1,[0,1],⟨by omega,hst (by omega)⟩,by omega,by rw [←ht (by omega)];(exact aL)⟩)
   |trace_state
 have hln:∀j<n.ln.length,lineE n j=0:=fun j hj=>hv j (by omega)
 (repeat' (conv=>whnf);first|refine aC ?_ ?_<;>intro<;>try omega|refine z1_Ks ?_|fail);all_goals try (conv=>whnf)
 refine LoopOb.mk (Y:=Nat) (st:=fun i=>⟨[(66,i64 i),(65,i64 (fls n.fl).length),(64, .psl 8 (fls n.fl)),(8, .mp 1),(1, .ptr 0 0)],[.box [.psl 1 (strs n.nm), .psl 5 (lns n.ln), .psl 8 (fls n.fl)], .mapS (mtn ((n.fl.take i).map (·.nm)))]⟩)
  (inv:=fun i=>i≤n.fl.length∧∀j<i,flowE n j=0) (fun i=>n.fl.length-i) 0 [0,2] ⟨by omega,by omega⟩ (by rw [List.take_zero];(exact aL)) ?_
 rintro i ⟨hi,hv⟩
 (repeat' (conv=>whnf);first|refine z1_Ks ?_|fail);all_goals try (conv=>whnf)
 refine CondOb.mk (fun hlt=>?_) (fun hlt=>?_)
 ·have hil:i<n.fl.length:=by omega
  have hE:=flowE_eq n i
  have hst:flowE n i=0→∀j<i+1,flowE n j=0:=fun h j hj=>by
   by_cases e:j=i
   ·rw [e];exact h
   ·exact hv j (by omega)
  have hat:flowE n i≠0→chkN n=flowE n i:=fun h=>chkN_flow g1 g2 hln hil hv h
  have hg:=flg hil
  have hL:=hn.flat hil
  have ht:nmErr ((n.fl.take i).map (·.nm)) (n.fl.getD i fl0).nm =0→mtw ((n.fl.take i).map (·.nm)) (n.fl.getD i fl0).nm =(n.fl.take (i+1)).map (·.nm):=fun h=>by
   unfold mtw;rw [if_pos h,take_succ' (d:=fl0) hil];simp
  generalize n.fl.getD i fl0=f at*
  have cF:=fresh_ok ((n.fl.take i).map (·.nm)) f.nm hL.nm
  have cR:=route_ok n h2 f hL
  have cT:=traffic_ok f hL
  generalize nmErr ((n.fl.take i).map (·.nm)) f.nm=e1 at*
  generalize routeE n.ln f=e2 at*
  generalize trf f=e3 at*
  generalize flowE n i=E at*
  (repeat' (conv=>whnf);first|refine aC ?_ ?_<;>intro<;>try omega|refine z1_Ks ?_|refine⟨i,_,rfl,hg,?_⟩|(refine aK [1] cF ?_)|(refine aK [] cR ?_)|(refine aK [] cT ?_)|fail);all_goals try (conv=>whnf)
  all_goals first
   |exact⟨rfl,by rw [if_pos (by omega)]at hE;rw [hat (by omega),hE];rfl⟩
   |exact⟨rfl,by rw [if_neg (by omega),if_pos (by omega)]at hE;rw [hat (by omega),hE];rfl⟩
   |exact⟨rfl,by rw [if_neg (by omega),if_neg (by omega)]at hE;rw [hat (by omega),hE];rfl⟩
   |(rw [if_neg (by omega),if_neg (by omega)]at hE;exact⟨i+1,[0,1],⟨by omega,hst (by omega)⟩,by omega,by rw [←ht (by omega)];(exact aL)⟩)
   |trace_state
 ·(repeat' (conv=>whnf);first|refine aC ?_ ?_<;>intro<;>try omega|refine z1_Ks ?_|fail);all_goals try (conv=>whnf)
  exact⟨rfl,by rw [chkN_ok g1 g2 hln (fun j hj=>hv j (by omega))];rfl⟩
end
section
open Go.Sx Go.Np Go.Cv
theorem idx_at {r:List Int} {l:Int}:∀{i:Nat},(∀j<i,¬r.getD j 0=l)→i<r.length→r.getD i 0=l→l∈r∧r.idxOf l=i:=by
 intro i hv hi e
 have hm:l∈r:=by rw [←e];exact getD_in hi
 refine⟨hm,?_⟩
 have h1:=List.idxOf_lt_length_of_mem hm
 have h2:r[r.idxOf l]=l:=List.getElem_idxOf h1
 have h3:r.getD (r.idxOf l) 0=l:=by rw [List.getD_eq_getElem?_getD,List.getElem?_eq_getElem h1,Option.getD_some];exact h2
 rcases Nat.lt_trichotomy (r.idxOf l) i with h|h|h
 ·exact absurd h3 (hv _ h)
 ·exact h
 ·have h4:r[i]=l:=by rw [←e,List.getD_eq_getElem?_getD,List.getElem?_eq_getElem hi,Option.getD_some]
  have:=List.not_of_lt_findIdx (p:=(· ==l)) (xs:=r) (i:=i) h
  simp [h4]at this
theorem Hop_ok (n:Nt) (hn:NL n) (f l:Int):Ctr Tryz.prog 41 [ntv n,i64 f,i64 l] [] (fun r o=>o=[]∧r=i64 (hop n f l)):=by
 refine fI 0 Tryz.func41 ?_
 have hfl:=fll n.fl
 have h3:=hn.fl
 (repeat' (conv=>whnf);first|refine aC ?_ ?_<;>intro<;>try omega|refine z1_Ks ?_|fail);all_goals try (conv=>whnf)
 ·exact⟨rfl,by unfold hop;rw [if_pos (by omega)];rfl⟩
 ·exact⟨rfl,by unfold hop;rw [if_pos (by omega)];rfl⟩
 have hil:f.toNat<n.fl.length:=by omega
 have hg:=flg hil
 have hL:=(hn.flat hil).rt
 have hE:hop n f l=if l∈(n.fl.getD f.toNat fl0).rt then(((n.fl.getD f.toNat fl0).rt.idxOf l:Nat):Int)else-1:=by unfold hop;rw [if_neg (by omega)]
 generalize hop n f l=E at*
 generalize n.fl.getD f.toNat fl0=g at*
 have hrl:=ints_len g.rt
 (repeat' (conv=>whnf);first|refine aC ?_ ?_<;>intro<;>try omega|refine z1_Ks ?_|refine⟨f.toNat,_,by omega,hg,?_⟩|fail);all_goals try (conv=>whnf)
 refine LoopOb.mk (Y:=Nat) (st:=fun i=>⟨[(25,i64 i),(24,i64 (ints g.rt).length),(23, .psl 1 (ints g.rt)),(2,i64 l)],[.box [.psl 1 (strs n.nm), .psl 5 (lns n.ln), .psl 8 (fls n.fl)]]⟩)
  (inv:=fun i=>i≤g.rt.length∧∀j<i,¬g.rt.getD j 0=l) (fun i=>g.rt.length-i) 0 [0] ⟨by omega,by omega⟩ (by(exact aL)) ?_
 rintro i ⟨hi,hv⟩
 (repeat' (conv=>whnf);first|refine z1_Ks ?_|refine⟨f.toNat,_,by omega,hg,?_⟩|fail);all_goals try (conv=>whnf)
 refine CondOb.mk (fun hlt=>?_) (fun hlt=>?_)
 ·have hst:¬g.rt.getD i 0=l→∀j<i+1,¬g.rt.getD j 0=l:=fun h j hj=>by
   by_cases e:j=i
   ·rw [e];exact h
   ·exact hv j (by omega)
  (repeat' (conv=>whnf);first|refine aC ?_ ?_<;>intro<;>try omega|refine z1_Ks ?_|refine⟨f.toNat,_,by omega,hg,?_⟩|fail);all_goals try (conv=>whnf)
  ·obtain⟨h1,h2⟩:=idx_at hv (by omega) (by assumption)
   exact⟨rfl,by rw [hE,if_pos h1,h2];rfl⟩
  ·exact⟨i+1,[0],⟨by omega,hst (by assumption)⟩,by omega,by(exact aL)⟩
 ·(repeat' (conv=>whnf);first|refine aC ?_ ?_<;>intro<;>try omega|refine z1_Ks ?_|fail);all_goals try (conv=>whnf)
  exact⟨rfl,by rw [hE,if_neg (idx_no fun j hj=>hv j (by omega))];rfl⟩
theorem Users_ok (n:Nt) (hn:NL n) (hb:n.fl.length≤1000) (l:Int):Ctr Tryz.prog 39 [ntv n,i64 l] [] (fun r o=>o=[]∧r= .psl 1 (ints (users n l))):=by
 refine Ctr.imp ?_
 refine fI 0 Tryz.func39 ?_
 have hfl:=fll n.fl
 have h3:=hn.fl
 (repeat' (conv=>whnf);first|refine aC ?_ ?_<;>intro<;>try omega|refine z1_Ks ?_|fail);all_goals try (conv=>whnf)
 refine LoopOb.mk (Y:=Nat) (st:=fun i=>⟨[(10,i64 i),(9,i64 (fls n.fl).length),(5, .vec 1),(2, .ptr 0 0),(1,i64 l)],[.box [.psl 1 (strs n.nm), .psl 5 (lns n.ln), .psl 8 (fls n.fl)], .vec 1 (ints (usr n l i))]⟩)
  (inv:=fun i=>i≤n.fl.length) (fun i=>n.fl.length-i) 0 [0,2] (by omega) (by(exact aL)) ?_
 intro i hi
 have hul:=ints_len (usr n l i)
 have hub:=usr_len (n:=n) (l:=l) (i:=i)
 (repeat' (conv=>whnf);first|refine z1_Ks ?_|fail);all_goals try (conv=>whnf)
 refine CondOb.mk (fun hlt=>?_) (fun hlt=>?_)
 ·have hs:usr n l (i+1)=if 0≤hop n i l then usr n l i++[(i:Int)]else usr n l i:=rfl
  have cH:=Hop_ok n hn i l
  generalize hop n i l=h at*
  generalize usr n l i=u at*
  (repeat' (conv=>whnf);first|refine aC ?_ ?_<;>intro<;>try omega|refine z1_Ks ?_|(refine aK [] cH ?_)|fail);all_goals try (conv=>whnf)
  ·rw [if_pos (by omega)]at hs
   exact⟨i+1,[0,3],by omega,by omega,by rw [hs,ints_app];(exact aL)⟩
  ·rw [if_neg (by omega)]at hs
   exact⟨i+1,[0,1],by omega,by omega,by rw [hs];(exact aL)⟩
 ·have e:i=n.fl.length:=by omega
  subst e
  (repeat' (conv=>whnf);first|refine aC ?_ ?_<;>intro _|refine z2_Ks ?_|fail);all_goals try (conv=>whnf)
  refine .mk [.fz 1] ?_
  (repeat' (conv=>whnf);first|refine aC ?_ ?_<;>intro _|refine z1_Ks ?_|fail);all_goals try (conv=>whnf)
  exact⟨rfl,Imp.refl _⟩
end
end Go.Proofs.YtbcjojomkibgeaaGreat
