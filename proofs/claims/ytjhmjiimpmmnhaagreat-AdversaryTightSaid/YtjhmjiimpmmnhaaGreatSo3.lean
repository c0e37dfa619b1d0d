/- Lemmas of this seat. Conditions: as stated. -/
import Derived.Test.YtjhmjiimpmmnhaaGreatN10
import Derived.Test.YtjhmjiimpmmnhaaGreatS4
import Derived.Test.YtjhmjiimpmmnhaaGreatMtt
set_option linter.unusedVariables false
set_option linter.unusedSimpArgs false
set_option maxHeartbeats 2000000
set_option maxRecDepth 4000
namespace Go.Proofs.YtjhmjiimpmmnhaaGreat
open Go.Sx Go.Pk Go.Mc Go.Np
theorem enough_ok (q:List Pk) (h60:q.length≤60) (hqs:∀i,i<q.length→1≤(q.getD i pk0).s ∧(q.getD i pk0).s ≤1500) (hqt:∀i,i<q.length→0≤(q.getD i pk0).t ∧(q.getD i pk0).t ≤4294967296):Ctr Tryz.prog 105 [.psl 3 (pks q)] [] (fun r o=>o=[]∧r=i64 (enN q)):=by
 refine fI 0 Tryz.func105 ?_
 have hpl:=pks_len q
 have hT:=fun m (hm:m≤q.length)=>enT_le (p:=q) (B:=4294967297) (m:=m) (by omega) fun i hi=>by have:=hqt i (by omega);omega
 have hS:=fun m (hm:m≤q.length)=>enS_le (p:=q) (m:=m) fun i hi=>hqs i (by omega)
 have hT1:=fun m=>enT_one (p:=q) (m:=m)
 (repeat' (conv=>whnf);first|refine aC ?_ ?_<;>intro<;>try omega|refine z1_R1 ?_|fail);all_goals try (conv=>whnf)
 refine LoopOb.mk (Y:=Nat) (st:=fun i=>⟨[(10,i64 i),(9,i64 (pks q).length),(8, .psl 3 (pks q)),(3,i64 (enT q i)),(0, .psl 3 (pks q))],[]⟩)
  (inv:=fun i=>i≤q.length) (fun i=>q.length-i) 0 [] (by omega) (by(exact aL)) ?_
 rintro i hi
 have h1:=hT i hi
 have h2:=hT1 i
 by_cases hil:i<q.length
 ·have hg:=pks_get hil
  have hb:=hqt i hil
  have hnx:enT q (i+1)=max (enT q i) ((q.getD i pk0).t +1):=rfl
  generalize q.getD i pk0=x at*
  generalize enT q i=e at*
  (repeat' (conv=>whnf);first|refine⟨i,_,rfl,hg,?_⟩|refine aC ?_ ?_<;>intro<;>try omega|refine z1_R1 ?_|fail);all_goals try (conv=>whnf)
  exact⟨i+1,[],by omega,by omega,by rw [hnx];(exact aL)⟩
 ·obtain rfl:i=q.length:=by omega
  (repeat' (conv=>whnf);first|refine aC ?_ ?_<;>intro<;>try omega|refine z1_R1 ?_|fail);all_goals try (conv=>whnf)
  refine LoopOb.mk (Y:=Nat) (st:=fun i=>⟨[(22,i64 i),(21,i64 (pks q).length),(20, .psl 3 (pks q)),(3,i64 (enT q q.length+enS q i))],[]⟩)
   (inv:=fun i=>i≤q.length) (fun i=>q.length-i) 0 [] (by omega) (by simp only [enS,Int.add_zero];(exact aL)) ?_
  rintro i hi
  have h3:=hS i hi
  by_cases hil:i<q.length
  ·have hg:=pks_get hil
   have hb:=hqs i hil
   have hnx:enT q q.length+enS q (i+1)=enT q q.length+enS q i+((q.getD i pk0).s +41):=by simp only [enS];omega
   generalize q.getD i pk0=x at*
   generalize enT q q.length=e at*
   generalize enS q i=e2 at*
   (repeat' (conv=>whnf);first|refine⟨i,_,rfl,hg,?_⟩|refine aC ?_ ?_<;>intro<;>try omega|refine z1_R1 ?_|fail);all_goals try (conv=>whnf)
   exact⟨i+1,[],by omega,by omega,by rw [hnx];(exact aL)⟩
  ·obtain rfl:i=q.length:=by omega
   (repeat' (conv=>whnf);first|refine aC ?_ ?_<;>intro<;>try omega|refine z1_R1 ?_|fail);all_goals try (conv=>whnf)
   exact⟨rfl,rfl⟩
theorem chL_idle {l:Ln} {T:Nat} {p:List Pk} (h:FitP p l.c.toNat l.n.toNat T) (h1:1≤l.k) (h5:l.k≤5) (hr:l.k=3→l.w.length=l.n.toNat∧inR l.w 1 20) (hs:l.k=5→l.s≠[]∧l.s.length≤40):∃L,L≤40∧Idle (chL l) p l.c.toNat L:=by
 by_cases k1:l.k=1
 ·exact⟨1,by omega,by rw [show chL l=fifoC from if_pos k1];exact fifo_idle _ _⟩
 by_cases k2:l.k=2
 ·exact⟨1,by omega,by rw [show chL l=prioC l.n.toNat by unfold chL;rw [if_neg k1,if_pos k2]];exact prio_idle _ _ _⟩
 by_cases k3:l.k=3
 ·exact⟨1,by omega,by rw [show chL l=robinC l.w by unfold chL;rw [if_neg k1,if_neg k2,if_pos k3]];exact robin_idle _ _ _⟩
 by_cases k4:l.k=4
 ·exact⟨1,by omega,by rw [show chL l=defC l.w by unfold chL;rw [if_neg k1,if_neg k2,if_neg k3,if_pos k4]];exact def_idle _ _ _⟩
 obtain⟨s1,s2⟩:=hs (by omega)
 refine⟨l.s.length,s2,?_⟩
 rw [show chL l=slotC l.c.toNat l.s by unfold chL;rw [if_neg k1,if_neg k2,if_neg k3,if_neg k4]]
 exact slot_idle _ _ (List.length_pos_iff.2 s1) _
theorem set_same {l:List Int} {h:Nat} {v:Int} (hh:h<l.length) (e:l.getD h (-1)=v):l.set h v=l:=by
 apply List.ext_getElem?;intro j
 rw [List.getElem?_set]
 by_cases k:h=j
 ·subst k
  rw [if_pos rfl,if_pos hh,←e,List.getD_eq_getElem?_getD,List.getElem?_eq_getElem hh];rfl
 ·rw [if_neg k]
theorem setR_same {ms:List (List Int)} {i:Nat} (hi:i<ms.length):ms.set i (ms.getD i [])=ms:=by
 apply List.ext_getElem?;intro j
 rw [List.getElem?_set]
 by_cases k:i=j
 ·subst k
  rw [if_pos rfl,if_pos hi,List.getD_eq_getElem?_getD,List.getElem?_eq_getElem hi];rfl
 ·rw [if_neg k]
abbrev ntO (n:Nt) (p:List Pk) (l:Int) (ms:List (List Int)) (c:Bool):List Chunk:=[nbx n, .box [.psl 3 (pks p)], .box [i64 l], .box [.vec 4], .mat 1 (ms.map ints), .box [.bl c]]
theorem z2_So3 {G H:Prop} (k:H) (h:H→G:=by first|exact fun r=>aS r|exact fun r=>aG r|exact fun r=>aD r|exact fun r=>aH r|exact fun r=>aP_R1 r|exact fun r=>aI r|exact fun r=>aJ r|exact fun r=>aW (.qs [0,1,2,3,4,5,6] (.l 7 [] (.qs [8] .nil) .no)) r):G:=h k
theorem note_ok (n:Nt) (hn:NL n) (p:List Pk) (hp:p.length≤60) (l:Int) (ms:List (List Int)) (c:Bool) (i h:Nat) (v:Int) (hi:i<p.length) (him:i<ms.length) (hh:hop n (p.getD i pk0).f l=h) (hr:h<(ms.getD i []).length) (hm:ms.length≤60) (hr4:(ms.getD i []).length ≤4):
  Ctr Tryz.prog 106 [i64 i,i64 v, .ptr 0 0, .ptr 1 0, .ptr 2 0, .ptr 3 0, .ptr 5 0] (ntO n p l ms c) (fun r o=>o=ntO n p l (ms.set i ((ms.getD i []).set h v)) (c||decide (dR ms i h≠v))∧r= .tup []):=by
 refine fI 6 Tryz.func106 ?_
 have hpl:=pks_len p
 have hg:=pks_get hi
 have hml:(ms.map ints).length =ms.length:=by simp
 have hgr:(ms.map ints)[i]? =some (ints (ms.getD i [])):=by simp [him]
 have hdR:dR ms i h=(ms.getD i []).getD h (-1):=rfl
 rw [hdR]
 have hsm:∀r',(ms.map ints).set i (ints r')=(ms.set i r').map ints:=fun r'=>by simp [List.map_set]
 have hsame:=setR_same him
 generalize p.getD i pk0=x at*
 generalize ms.getD i []=row at*
 have hil:=ints_len row
 have hgv:=ints_get (l:=row) (j:=h) hr
 have hdf:=getD_dflt (l:=row) (j:=h) hr (a:= -1) (b:=0)
 (repeat' (conv=>whnf);first|refine⟨i,_,rfl,hg,?_⟩|refine aC ?_ ?_<;>intro<;>try omega|refine z2_So3 ?_|(refine aK [] (Hop_ok n hn x.f l) ?_)|refine⟨i,rfl,by omega,?_⟩|refine⟨by omega,?_⟩|fail);all_goals try (conv=>whnf)
 rw [hh]
 by_cases hc:row.getD h (-1)=v
 ·have e:(c||decide (row.getD h (-1)≠v))=c:=by rw [decide_eq_false (fun k=>k hc),Bool.or_false]
  rw [e,set_same hr hc,hsame]
  rw [hdf]at hc
  generalize row.getD h 0=u at*
  (repeat' (conv=>whnf);first|refine aC ?_ ?_<;>intro<;>try omega|refine z2_So3 ?_|refine⟨_,rfl,hgr,by omega,?_⟩|refine⟨_,_,hgr,hgv,?_⟩|fail);all_goals try (conv=>whnf)
  exact⟨rfl,rfl⟩
 ·have e:(c||decide (row.getD h (-1)≠v))=true:=by rw [decide_eq_true hc,Bool.or_true]
  rw [e]
  unfold ntO
  rw [←hsm,show ints (row.set h v)=(ints row).set h [i64 v]by simp [ints,List.map_set]]
  rw [hdf]at hc
  generalize row.getD h 0=u at*
  (repeat' (conv=>whnf);first|refine aC ?_ ?_<;>intro<;>try omega|refine z2_So3 ?_|refine⟨_,rfl,hgr,by omega,?_⟩|refine⟨_,_,hgr,hgv,?_⟩|refine⟨i,rfl,?_⟩|refine⟨by omega,?_⟩|refine⟨_,rfl,hgr,by omega,?_⟩|fail);all_goals try (conv=>whnf)
  exact⟨rfl,rfl⟩
end Go.Proofs.YtjhmjiimpmmnhaaGreat
