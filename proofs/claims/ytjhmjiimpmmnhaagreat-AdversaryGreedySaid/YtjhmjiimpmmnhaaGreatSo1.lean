/- Lemmas of this seat. Conditions: as stated. -/
import Derived.Test.YtjhmjiimpmmnhaaGreatT14
import Derived.Test.YtjhmjiimpmmnhaaGreatMp
import Derived.Test.YtjhmjiimpmmnhaaGreatS6
import Derived.Test.YtjhmjiimpmmnhaaGreatSrt
set_option linter.unusedVariables false
set_option linter.unusedSimpArgs false
set_option maxHeartbeats 2000000
set_option maxRecDepth 4000
namespace Go.Proofs.YtjhmjiimpmmnhaaGreat
section
open Go.Sx Go.Pk Go.Mc Go.Np
theorem nan_ok (x:Int):Ctr Tryz.prog 70 [i64 x] [] (fun r o=>o=[]∧r= .bp (x≠x)):=by
 refine fI 0 Tryz.func70 ?_
 (repeat' (conv=>whnf);first|refine aC ?_ ?_<;>intro<;>try omega|refine z2_T1 ?_|fail);all_goals try (conv=>whnf)
 exact⟨rfl,rfl⟩
theorem cmp_ok (x y:Int):Ctr Tryz.prog 48 [i64 x,i64 y] [] (fun r o=>o=[]∧r=i64 (cmpI x y)):=by
 refine fI 0 Tryz.func48 ?_
 obtain⟨v,hv⟩:∃v,v=cmpI x y:=⟨_,rfl⟩
 rw [←hv]
 unfold cmpI at hv
 rcases Int.lt_trichotomy x y with h|h|h
 ·rw [if_pos h]at hv
  subst hv
  (repeat' (conv=>whnf);first|refine aC ?_ ?_<;>intro<;>try omega|refine z2_T1 ?_|(refine aM [] (nan_ok _) rfl rfl ?_;rintro _ _ ⟨rfl,rfl⟩)|fail);all_goals try (conv=>whnf)
  exact⟨rfl,rfl⟩
 ·rw [if_neg (by omega),if_neg (by omega)]at hv
  subst hv
  (repeat' (conv=>whnf);first|refine aC ?_ ?_<;>intro<;>try omega|refine z2_T1 ?_|(refine aM [] (nan_ok _) rfl rfl ?_;rintro _ _ ⟨rfl,rfl⟩)|fail);all_goals try (conv=>whnf)
  exact⟨rfl,rfl⟩
 ·rw [if_neg (by omega),if_pos h]at hv
  subst hv
  (repeat' (conv=>whnf);first|refine aC ?_ ?_<;>intro<;>try omega|refine z2_T1 ?_|(refine aM [] (nan_ok _) rfl rfl ?_;rintro _ _ ⟨rfl,rfl⟩)|fail);all_goals try (conv=>whnf)
  exact⟨rfl,rfl⟩
theorem or_ok (l:List Int) (hl:l.length≤100):Ctr Tryz.prog 127 [.vec 0] [.vec 1 (ints l)] (fun r o=>o=[.vec 1 (ints l)]∧r=i64 ((l.find? fun x=>decide (x≠0)).getD 0)):=by
 refine fI 1 Tryz.func127 ?_
 have hil:=ints_len l
 (repeat' (conv=>whnf);first|refine aC ?_ ?_<;>intro<;>try omega|refine z2_T1 ?_|fail);all_goals try (conv=>whnf)
 refine LoopOb.mk (Y:=Nat) (st:=fun i=>⟨[(8,i64 i),(7,i64 (ints l).length),(6, .vec 0),(3,i64 0)],[.vec 1 (ints l)]⟩)
  (inv:=fun i=>i≤l.length∧l.find? (fun x=>decide (x≠0))=(l.drop i).find? fun x=>decide (x≠0)) (fun i=>l.length-i) 0 [0] ⟨by omega,rfl⟩ (by(exact aL)) ?_
 rintro i ⟨hi,he⟩
 rw [he]
 (repeat' (conv=>whnf);first|refine z2_T1 ?_|fail);all_goals try (conv=>whnf)
 refine CondOb.mk (fun hlt=>?_) (fun hlt=>?_)
 ·have hil2:i<l.length:=by omega
  have hg:=ints_get (l:=l) (j:=i) hil2
  have hd:l.drop i=l.getD i 0::l.drop (i+1):=by
   rw [List.drop_eq_getElem_cons hil2,List.getD_eq_getElem?_getD,List.getElem?_eq_getElem hil2];rfl
  rw [hd]at he⊢
  generalize l.getD i 0=v at*
  by_cases hv:v=0
  ·subst hv
   simp only [List.find?_cons,ne_eq,not_true_eq_false,decide_false]at he⊢
   (repeat' (conv=>whnf);first|refine aC ?_ ?_<;>intro<;>try omega|refine z2_T1 ?_|refine⟨i,rfl,by omega,?_⟩|refine⟨_,hg,?_⟩|fail);all_goals try (conv=>whnf)
   exact⟨i+1,[0],⟨by omega,by first|rfl|exact he⟩,by omega,by(exact aL)⟩
  ·have e:List.find? (fun x=>decide (x≠0)) (v::l.drop (i+1))=some v:=by simp [hv]
   rw [e]
   (repeat' (conv=>whnf);first|refine aC ?_ ?_<;>intro<;>try omega|refine z2_T1 ?_|refine⟨i,rfl,by omega,?_⟩|refine⟨_,hg,?_⟩|fail);all_goals try (conv=>whnf)
   exact⟨rfl,rfl⟩
 ·obtain rfl:i=l.length:=by omega
  rw [List.drop_length]
  (repeat' (conv=>whnf);first|refine aC ?_ ?_<;>intro<;>try omega|refine z2_T1 ?_|fail);all_goals try (conv=>whnf)
  exact⟨rfl,rfl⟩
abbrev wcl (F:Tf) (x:Wt):List Int:=[F.cs x.i,x.a,F.s x.i,x.f,(x.i:Int)]
theorem z2_So1 {G H:Prop} (k:H) (h:H→G:=by first|exact fun r=>aS r|exact fun r=>aG r|exact fun r=>aD r|exact fun r=>aH r|exact fun r=>aP_T1 r|exact fun r=>aI r|exact fun r=>aJ r|exact fun r=>aW (.qs [0,1,2,3,4,5,7,8,9,10,12,13,14,15] (.l 6 [15,13,10,8] (.l 11 [15,13] (.l 16 [] (.l 17 [] (.l 18 [] (.qs [19] .nil) .no) .no) .no) .no) .no)) r):G:=h k
theorem q1_ok (F:Tf) (x y:Wt):Ctr Tryz.prog 126 [.agg (sRow (wcl F) x), .agg (sRow (wcl F) y)] [] (fun r o=>r=i64 (cmpW x y)):=by
 refine fI 0 Tryz.func126 ?_
 have e:([cmpI x.a y.a,cmpI x.f y.f,cmpI x.i y.i].find? fun x=>decide (x≠0)).getD 0=cmpW x y:=by
  unfold cmpW
  generalize cmpI x.a y.a=a
  generalize cmpI x.f y.f=b
  generalize cmpI x.i y.i=c
  by_cases h1:a=0
  ·by_cases h2:b=0
   ·by_cases h3:c=0<;>simp [h1,h2,h3]
   ·simp [h1,h2]
  ·simp [h1]
 simp only [sRow,List.map_cons,List.map_nil]
 (repeat' (conv=>whnf);first|refine aC ?_ ?_<;>intro<;>try omega|refine z2_So1 ?_|(refine aM [] (cmp_ok _ _) rfl rfl ?_;rintro _ _ ⟨rfl,rfl⟩)|(refine aK [2] (or_ok [cmpI x.a y.a,cmpI x.f y.f,cmpI x.i y.i] (by simp)) ?_;rw [e])|fail);all_goals try (conv=>whnf)
 exact rfl
instance :Inhabited Wt:=⟨⟨0,0,0⟩⟩
theorem cmpW_swo:Go.Sort.SWO (ltOf cmpW) where
 irrefl x:=by
  simp only [ltOf,decide_eq_false_iff_not]
  rw [cmpW_lt];exact fun h=>Wt.lt_irr h
 trans x y z h1 h2:=by
  simp only [ltOf,decide_eq_true_eq,cmpW_lt]at*
  exact Wt.lt_tr h1 h2
 ntrans x y z h1 h2:=by
  simp only [ltOf,decide_eq_false_iff_not,cmpW_lt]at*
  intro h
  rcases Wt.lt_tri x y with k|k|k
  ·exact h1 k
  ·subst k;exact h2 h
  ·exact h2 (Wt.lt_tr k h)
theorem sortW_ok (F:Tf) (q:List Wt) (hq:q.length≤1000):Ctr Tryz.prog 125 [.vec 0, .fn 126 []] [.vec 5 (q.map (sRow (wcl F)))] (fun r o=>r= .tup []∧∃q':List Wt,q'.Perm q∧q'.Pairwise (fun x y=>¬y.lt x)∧o=[.vec 5 (q'.map (sRow (wcl F)))]):=by
 have eg:∀args w,(callFunc 126 args).run Tryz.prog w= .ok (.enter 126 args) w:=enters_of Tryz.func126 (by kernel_rfl) rfl
 have h:=SortFunc_ctr sortW (f:=125) rfl ⟨_,Tryz.func125,by kernel_rfl,by kernel_rfl⟩ 5 (by omega) Tryz.isAgg197 Tryz.sizeOf197 (wcl F) (fun _=>rfl) cmpW cmpW_swo 126 eg
  (fun x y W=>((q1_ok F x y).grown (vs:=[.agg (vRow (wcl F) x).toArray, .agg (vRow (wcl F) y).toArray]) ⟨_,_,rfl,⟨_,rfl,sRow_rel.2 rfl⟩,_,_,rfl,⟨_,rfl,sRow_rel.2 rfl⟩,rfl⟩ W).mono (by
   rintro e w' ⟨v,r,o,σ',β',rfl,hr,rfl,hg⟩
   have:v= .int .i64 (cmpW x y):=hr
   subst this
   exact⟨rfl,hg⟩)) q (by omega)
 refine h.mono ?_
 rintro r o ⟨h1,q',h2,h3,h4⟩
 exact⟨h1,q',h2,h3.imp fun h=>by rwa [cmpW_lt]at h,h4⟩
end
end Go.Proofs.YtjhmjiimpmmnhaaGreat
section
namespace Go.Mc
open Go.Pk Go.Np
structure RtG (n:Nt) (f:Fl):Prop where
 l1:1≤f.rt.length
 l2:f.rt.length≤4
 b:∀i,i<f.rt.length→0≤f.rt.getD i 0∧f.rt.getD i 0<n.ln.length
 d:∀i j,i<j→j<f.rt.length→f.rt.getD i 0≠f.rt.getD j 0
 c:∀i,i<f.rt.length→0≤f.cl∧f.cl<(n.ln.getD (f.rt.getD i 0).toNat ln0).n
 s1:1≤f.lo
 s2:f.hi≤1500
theorem mem_takeG {l:List Int} {i j:Nat} (h1:j<i) (h2:j<l.length):l.getD j 0∈l.take i:=by
 rw [List.mem_iff_getElem]
 refine⟨j,by rw [List.length_take];omega,?_⟩
 rw [List.getElem_take]
 simp [List.getD_eq_getElem?_getD,h2]
theorem chk_rt {n:Nt} (h:chkN n=0) {j:Nat} (hj:j<n.fl.length):RtG n (n.fl.getD j fl0):=by
 have h1:=(chkN_zero h).2.2.2 j hj
 unfold flowE at h1
 generalize n.fl.getD j fl0=f at*
 split at h1
 ·exact absurd h1 (by assumption)
 ·split at h1
  ·exact absurd h1 (by assumption)
  ·rename_i _ h2
   have hs:1≤f.lo∧f.hi≤1500:=by
    unfold trafE at h1
    split at h1
    ·cases h1
    ·omega
   have h:routeE n.ln f=0:=by omega
   unfold routeE at h
   split at h
   ·omega
   ·split at h
    ·omega
    ·rename_i h1 h2
     have hz:=firstE_zero h
     have key:∀i,i<f.rt.length→(0≤f.rt.getD i 0∧f.rt.getD i 0<n.ln.length)∧f.rt.getD i 0∉f.rt.take i∧0≤f.cl∧f.cl<(n.ln.getD (f.rt.getD i 0).toNat ln0).n :=by
      intro i hi
      have h3:=hz i hi
      unfold hopE at h3
      split at h3
      ·omega
      ·split at h3
       ·omega
       ·split at h3
        ·omega
        ·exact⟨by omega,by assumption,by omega,by omega⟩
     refine⟨by omega,by omega,fun i hi=>(key i hi).1,fun i j hij hj e=>?_,fun i hi=>(key i hi).2.2,hs.1,hs.2⟩
     have:=(key j hj).2.1
     rw [←e]at this
     exact this (mem_takeG hij (by omega))
theorem chk_ln {n:Nt} (h:chkN n=0) {j:Nat} (hj:j<n.ln.length):lnErr (n.ln.getD j ln0)=0:=by
 have h1:=(chkN_zero h).2.2.1 j hj
 unfold lineE at h1
 split at h1
 ·exact absurd h1 (by assumption)
 ·exact h1
theorem chk_n {n:Nt} (h:chkN n=0):n.ln.length≤8∧n.fl.length≤10:=by
 have h1:=(chkN_zero h).1
 omega
theorem SkP.fl {n:Nt} {p:List Pk} (h:SkP n p) {i:Nat} (hi:i<p.length):0≤(p.getD i pk0).f ∧(p.getD i pk0).f <n.fl.length∧0≤(p.getD i pk0).t ∧(p.getD i pk0).t ≤380∧RtG n (pfl n (p.getD i pk0))∧(pfl n (p.getD i pk0)).lo ≤(p.getD i pk0).s ∧(p.getD i pk0).s ≤(pfl n (p.getD i pk0)).hi :=by
 have h1:=h.g i hi
 unfold bdP at h1
 refine⟨by omega,by omega,by omega,by omega,chk_rt h.h (by omega),by omega,by omega⟩
theorem SkP.rt {n:Nt} {p:List Pk} (h:SkP n p):RtP n p:=by
 refine⟨fun i hi=>⟨(h.fl hi).1,(h.fl hi).2.1⟩,fun i hi x hx=>?_⟩
 obtain⟨_,_,_,_,hG,_⟩:=h.fl hi
 obtain⟨j,hj,rfl⟩:=List.mem_iff_getElem.1 hx
 have:=(hG.b j hj).1
 rw [List.getD_eq_getElem?_getD,List.getElem?_eq_getElem hj]at this
 exact this
theorem SkP.lnn {n:Nt} {p:List Pk} (h:SkP n p) {i k:Nat} (hi:i<p.length) (hk:k<((toF n p).rt i).length):((lin (toF n p) i k:Nat):Int)=(pfl n (p.getD i pk0)).rt.getD k 0∧lin (toF n p) i k<n.ln.length:=by
 obtain⟨_,_,_,_,hG,_⟩:=h.fl hi
 have hk2:k<(pfl n (p.getD i pk0)).rt.length :=by simpa [toF]using hk
 have hb:=hG.b k hk2
 have e:lin (toF n p) i k=((pfl n (p.getD i pk0)).rt.getD k 0).toNat :=by
  show((pfl n (p.getD i pk0)).rt.map Int.toNat).getD k 0=_
  generalize (pfl n (p.getD i pk0)).rt =r at hk2⊢
  rw [List.getD_eq_getElem?_getD,List.getElem?_map,List.getD_eq_getElem?_getD,List.getElem?_eq_getElem hk2];rfl
 rw [e];omega
theorem SkP.rts {n:Nt} {p:List Pk} (h:SkP n p):Rts (toF n p):=by
 intro i hi
 obtain⟨_,_,_,_,hG,_⟩:=h.fl hi
 show((pfl n (p.getD i pk0)).rt.map Int.toNat).Nodup
 generalize pfl n (p.getD i pk0)=f at hG
 refine List.pairwise_iff_getElem.2 fun a b ha hb hab=>?_
 rw [List.length_map]at hb
 rw [List.getElem_map,List.getElem_map]
 have h1:=hG.b a (by omega)
 have h2:=hG.b b hb
 have h3:=hG.d a b hab hb
 rw [List.getD_eq_getElem?_getD,List.getElem?_eq_getElem (Nat.lt_trans hab hb)]at h1 h3
 rw [List.getD_eq_getElem?_getD,List.getElem?_eq_getElem hb]at h2 h3
 simp only [Option.getD_some,ne_eq]at*
 omega
theorem SkP.qu {n:Nt} {p:List Pk} (h:SkP n p) {D:Tp} {N:Nat} (hN:N≤2000) (hb:∀i k,i<p.length→k<((toF n p).rt i).length →D i k<N) {l:Nat} {x:Wt} (hx:x∈qu (toF n p) D l):
  x.i<p.length∧1≤(p.getD x.i pk0).s ∧(p.getD x.i pk0).s ≤1500∧0≤x.a∧x.a≤2000∧0≤(pfl n (p.getD x.i pk0)).cl ∧(pfl n (p.getD x.i pk0)).cl <(n.ln.getD l ln0).n ∧(∃k,hp (toF n p) l x.i=some k):=by
 obtain⟨h1,⟨k,h2,h3⟩,h4⟩:=((qu_ok (toF n p) D l).m x).1 hx
 have h1:x.i<p.length:=h1
 obtain⟨_,_,t1,t2,hG,s1,s2⟩:=h.fl h1
 obtain⟨k1,k2⟩:=hp_some h2
 have k3:k<(pfl n (p.getD x.i pk0)).rt.length :=by simpa [toF]using k1
 have hc:=hG.c k k3
 have hl:=(h.lnn h1 k1).1
 rw [k2]at hl
 rw [←hl,Int.toNat_natCast]at hc
 have ha:0≤x.a∧x.a≤2000:=by
  unfold arr at h3
  split at h3
  ·have e:(p.getD x.i pk0).t =x.a:=Option.some.inj h3
   omega
  ·split at h3
   ·rename_i hk0 hall
    have e:D x.i (k-1)+1=x.a:=Option.some.inj h3
    have:=hall (k-1) (by omega)
    have:=hb x.i (k-1) h1 (by omega)
    omega
   ·cases h3
 have:=hG.s1;have:=hG.s2
 exact⟨h1,by omega,by omega,ha.1,ha.2,hc.1,hc.2,k,h2⟩
theorem qu_len (n:Nt) (p:List Pk) (D:Tp) (l:Nat):(qu (toF n p) D l).length ≤p.length:=by
 have:=quL_len (n:=n) (p:=p) (D:=D) (l:=l) p.length
 rw [quL_nat]at this
 exact this
def enT (p:List Pk):Nat→Int
 |0=>1
 |i+1=>max (enT p i) ((p.getD i pk0).t +1)
def enS (p:List Pk):Nat→Int
 |0=>0
 |i+1=>enS p i+((p.getD i pk0).s +41)
def enN (p:List Pk):Int:=enT p p.length+enS p p.length
theorem enT_ge {p:List Pk}:∀{m i:Nat},i<m→(p.getD i pk0).t +1≤enT p m
 |m+1,i,h=>by
  simp only [enT]
  rcases Nat.lt_succ_iff_lt_or_eq.1 h with h|h
  ·have:=enT_ge (p:=p) h;omega
  ·subst h;omega
theorem enT_one {p:List Pk}:∀{m:Nat},1≤enT p m
 |0=>by simp [enT]
 |m+1=>by have:=enT_one (p:=p) (m:=m);simp only [enT];omega
theorem enT_le {p:List Pk} {B:Int}:∀{m:Nat},1≤B→(∀i,i<m→(p.getD i pk0).t +1≤B)→enT p m≤B
 |0,h,_=>h
 |m+1,h,h2=>by have:=enT_le (p:=p) (m:=m) h fun i hi=>h2 i (by omega);have:=h2 m (by omega);simp only [enT];omega
theorem enS_eq {p:List Pk}:∀{m:Nat},(∀i,i<m→1≤(p.getD i pk0).s)→enS p m=((sumN (sz p) m+41*m:Nat):Int)
 |0,_=>by simp [enS,sumN]
 |m+1,h=>by
  have:=enS_eq (p:=p) (m:=m) fun i hi=>h i (by omega)
  have h2:=h m (by omega)
  simp only [enS,sumN]
  rw [this]
  unfold sz
  omega
theorem enS_le {p:List Pk}:∀{m:Nat},(∀i,i<m→1≤(p.getD i pk0).s ∧(p.getD i pk0).s ≤1500)→0≤enS p m∧enS p m≤1541*m
 |0,_=>by simp [enS]
 |m+1,h=>by
  have:=enS_le (p:=p) (m:=m) fun i hi=>h i (by omega)
  have h2:=h m (by omega)
  simp only [enS]
  omega
theorem run_min {C:Ch} {p:List Pk} (hp:Asc p) (hs:∀i,i<p.length→1≤(p.getD i pk0).s) {c L N:Nat} (hC:Idle C p c L) (hL:L≤40) (hc:1≤c):
  (run C p c (min (N:Int) (enN p)).toNat).dn =(run C p c N).dn :=by
 have h1:=enT_one (p:=p) (m:=p.length)
 have h2:=enS_eq (p:=p) (m:=p.length) hs
 have h3:(L-1)*p.length≤39*p.length:=Nat.mul_le_mul_right _ (by omega)
 have h4:enN p=enT p p.length+enS p p.length:=rfl
 by_cases h:(N:Int)≤enN p
 ·rw [show(min (N:Int) (enN p)).toNat =N by omega]
 ·have hpos:Pos p:=fun i hi=>by have:=hs i hi;unfold sz;omega
  refine run_enough hp hpos hC hc (last:=(enT p p.length-1).toNat) (fun i hi=>?_) ?_ ?_
  ·have:=enT_ge (p:=p) hi;unfold tm;omega
  ·unfold byt;omega
  ·unfold byt;omega
def inQ (q:List Wt) (i:Nat):Bool:=q.any fun x=>decide (x.i=i)
theorem inQ_iff {q:List Wt} {i:Nat}:inQ q i=true↔∃x∈q,x.i=i:=by simp [inQ]
theorem inQ_take {q:List Wt} {k:Nat} (hk:k<q.length) (i:Nat):inQ (q.take (k+1)) i=(inQ (q.take k) i||decide (q[k].i =i)):=by
 unfold inQ
 rw [List.take_succ_eq_append_getElem hk,List.any_append]
 simp
theorem Qu.fresh {F:Tf} {D:Tp} {l:Nat} {q:List Wt} (h:Qu F D l q) {k:Nat} (hk:k<q.length):inQ (q.take k) q[k].i =false:=by
 cases hb:inQ (q.take k) q[k].i with
 |false=>rfl
 |true=>
  obtain⟨x,hx,e⟩:=inQ_iff.1 hb
  obtain⟨j,hj,rfl⟩:=List.mem_iff_getElem.1 hx
  rw [List.length_take]at hj
  rw [List.getElem_take]at e
  have:=h.inj (by omega) hk e
  omega
theorem Qu.hp {F:Tf} {D:Tp} {l:Nat} {q:List Wt} (h:Qu F D l q) {x:Wt} (hx:x∈q):x.i<F.np∧∃k,Mc.hp F l x.i=some k:=by
 obtain⟨h1,⟨k,h2,_⟩,_⟩:=(h.m x).1 hx
 exact⟨h1,k,h2⟩
theorem pas_out {F:Tf} {Z:Li} {N l i:Nat} {D:Tp} {q:List Wt} (h:Qu F D l q) (hi:inQ q i=false):pas F Z N D l i= -1:=by
 have e:=h.uniq (qu_ok F D l)
 subst e
 unfold pas
 rw [plc_none.2 fun x hx e=>?_]
 have:inQ (qu F D l) i=true:=inQ_iff.2 ⟨x,hx,e⟩
 rw [hi]at this;cases this
theorem nte_ext {F:Tf} {Z:Li} {N l:Nat} {ms:List (List Int)} {S S':Nat→Bool} (h:∀i,i<ms.length→S i=S' i):nteM F Z N l ms S=nteM F Z N l ms S':=
 rows_ext (by rw [nte_len,nte_len]) (fun _=>by rw [nte_rlen,nte_rlen]) fun i j hi hj=>by
  rw [nte_len]at hi
  rw [nte_rlen]at hj
  rw [nte_at hj,nte_at hj,h i hi]
theorem chg_ext {F:Tf} {Z:Li} {N l:Nat} {ms:List (List Int)} {S S':Nat→Bool} (h:∀i,i<F.np→S i=S' i):ChgM F Z N l ms S↔ChgM F Z N l ms S':=
 ⟨fun⟨i,k,a,b,c⟩=>⟨i,k,a,by rw [←h i a];exact b,c⟩,fun⟨i,k,a,b,c⟩=>⟨i,k,a,by rw [h i a];exact b,c⟩⟩
theorem chg_none {F:Tf} {Z:Li} {N l:Nat} {ms:List (List Int)} {S:Nat→Bool} (h:∀i,S i=false):¬ChgM F Z N l ms S:=fun⟨i,_,_,b,_⟩=>by rw [h i]at b;cases b
end Go.Mc
end
