/- Lemmas of this seat. Conditions: as stated. -/
import Derived.Test.YtjhmjiimpmmnhaaGreatMn
import Derived.Test.YtjhmjiimpmmnhaaGreatJ1
import Derived.Test.YtjhmjiimpmmnhaaGreatN6
import Derived.Test.YtjhmjiimpmmnhaaGreatN8
import Derived.Test.YtjhmjiimpmmnhaaGreatT13
import Derived.Test.YtjhmjiimpmmnhaaGreatSrt
import Derived.Test.YtjhmjiimpmmnhaaGreatT1
import Derived.Test.YtjhmjiimpmmnhaaGreatMs
set_option linter.unusedVariables false
set_option linter.unusedSimpArgs false
set_option maxHeartbeats 2000000
set_option maxRecDepth 4000
section
namespace Go.Mc
open Go.Pk Go.Np
structure RtG (n:Nt) (f:Fl):Prop where
 l1:1≤f.rt.length
 l2:f.rt.length≤4
 b:∀i,i<f.rt.length→0≤f.rt.getD i 0∧f.rt.getD i 0<n.ln.length
 d:∀i j,i<j→j<f.rt.length→f.rt.getD i 0≠f.rt.getD j 0
 c:∀i,i<f.rt.length→0≤f.cl∧f.cl<(n.ln.getD (f.rt.getD i 0).toNat ln0).n
 s1:1≤f.lo
 s2:f.hi≤1500
theorem mem_takeG {l:List Int} {i j:Nat} (h1:j<i) (h2:j<l.length):l.getD j 0∈l.take i:=by
 rw [List.mem_iff_getElem]
 refine⟨j,by rw [List.length_take];omega,?_⟩
 rw [List.getElem_take]
 simp [List.getD_eq_getElem?_getD,h2]
theorem chk_rt {n:Nt} (h:chkN n=0) {j:Nat} (hj:j<n.fl.length):RtG n (n.fl.getD j fl0):=by
 have h1:=(chkN_zero h).2.2.2 j hj
 unfold flowE at h1
 generalize n.fl.getD j fl0=f at*
 split at h1
 ·exact absurd h1 (by assumption)
 ·split at h1
  ·exact absurd h1 (by assumption)
  ·rename_i _ h2
   have hs:1≤f.lo∧f.hi≤1500:=by
    unfold trafE at h1
    split at h1
    ·cases h1
    ·omega
   have h:routeE n.ln f=0:=by omega
   unfold routeE at h
   split at h
   ·omega
   ·split at h
    ·omega
    ·rename_i h1 h2
     have hz:=firstE_zero h
     have key:∀i,i<f.rt.length→(0≤f.rt.getD i 0∧f.rt.getD i 0<n.ln.length)∧f.rt.getD i 0∉f.rt.take i∧0≤f.cl∧f.cl<(n.ln.getD (f.rt.getD i 0).toNat ln0).n :=by
      intro i hi
      have h3:=hz i hi
      unfold hopE at h3
      split at h3
      ·omega
      ·split at h3
       ·omega
       ·split at h3
        ·omega
        ·exact⟨by omega,by assumption,by omega,by omega⟩
     refine⟨by omega,by omega,fun i hi=>(key i hi).1,fun i j hij hj e=>?_,fun i hi=>(key i hi).2.2,hs.1,hs.2⟩
     have:=(key j hj).2.1
     rw [←e]at this
     exact this (mem_takeG hij (by omega))
theorem chk_ln {n:Nt} (h:chkN n=0) {j:Nat} (hj:j<n.ln.length):lnErr (n.ln.getD j ln0)=0:=by
 have h1:=(chkN_zero h).2.2.1 j hj
 unfold lineE at h1
 split at h1
 ·exact absurd h1 (by assumption)
 ·exact h1
theorem chk_n {n:Nt} (h:chkN n=0):n.ln.length≤8∧n.fl.length≤10:=by
 have h1:=(chkN_zero h).1
 omega
theorem SkP.fl {n:Nt} {p:List Pk} (h:SkP n p) {i:Nat} (hi:i<p.length):0≤(p.getD i pk0).f ∧(p.getD i pk0).f <n.fl.length∧0≤(p.getD i pk0).t ∧(p.getD i pk0).t ≤380∧RtG n (pfl n (p.getD i pk0))∧(pfl n (p.getD i pk0)).lo ≤(p.getD i pk0).s ∧(p.getD i pk0).s ≤(pfl n (p.getD i pk0)).hi :=by
 have h1:=h.g i hi
 unfold bdP at h1
 refine⟨by omega,by omega,by omega,by omega,chk_rt h.h (by omega),by omega,by omega⟩
theorem SkP.rt {n:Nt} {p:List Pk} (h:SkP n p):RtP n p:=by
 refine⟨fun i hi=>⟨(h.fl hi).1,(h.fl hi).2.1⟩,fun i hi x hx=>?_⟩
 obtain⟨_,_,_,_,hG,_⟩:=h.fl hi
 obtain⟨j,hj,rfl⟩:=List.mem_iff_getElem.1 hx
 have:=(hG.b j hj).1
 rw [List.getD_eq_getElem?_getD,List.getElem?_eq_getElem hj]at this
 exact this
theorem SkP.lnn {n:Nt} {p:List Pk} (h:SkP n p) {i k:Nat} (hi:i<p.length) (hk:k<((toF n p).rt i).length):((lin (toF n p) i k:Nat):Int)=(pfl n (p.getD i pk0)).rt.getD k 0∧lin (toF n p) i k<n.ln.length:=by
 obtain⟨_,_,_,_,hG,_⟩:=h.fl hi
 have hk2:k<(pfl n (p.getD i pk0)).rt.length :=by simpa [toF]using hk
 have hb:=hG.b k hk2
 have e:lin (toF n p) i k=((pfl n (p.getD i pk0)).rt.getD k 0).toNat :=by
  show((pfl n (p.getD i pk0)).rt.map Int.toNat).getD k 0=_
  generalize (pfl n (p.getD i pk0)).rt =r at hk2⊢
  rw [List.getD_eq_getElem?_getD,List.getElem?_map,List.getD_eq_getElem?_getD,List.getElem?_eq_getElem hk2];rfl
 rw [e];omega
theorem SkP.rts {n:Nt} {p:List Pk} (h:SkP n p):Rts (toF n p):=by
 intro i hi
 obtain⟨_,_,_,_,hG,_⟩:=h.fl hi
 show((pfl n (p.getD i pk0)).rt.map Int.toNat).Nodup
 generalize pfl n (p.getD i pk0)=f at hG
 refine List.pairwise_iff_getElem.2 fun a b ha hb hab=>?_
 rw [List.length_map]at hb
 rw [List.getElem_map,List.getElem_map]
 have h1:=hG.b a (by omega)
 have h2:=hG.b b hb
 have h3:=hG.d a b hab hb
 rw [List.getD_eq_getElem?_getD,List.getElem?_eq_getElem (Nat.lt_trans hab hb)]at h1 h3
 rw [List.getD_eq_getElem?_getD,List.getElem?_eq_getElem hb]at h2 h3
 simp only [Option.getD_some,ne_eq]at*
 omega
theorem SkP.qu {n:Nt} {p:List Pk} (h:SkP n p) {D:Tp} {N:Nat} (hN:N≤2000) (hb:∀i k,i<p.length→k<((toF n p).rt i).length →D i k<N) {l:Nat} {x:Wt} (hx:x∈qu (toF n p) D l):
  x.i<p.length∧1≤(p.getD x.i pk0).s ∧(p.getD x.i pk0).s ≤1500∧0≤x.a∧x.a≤2000∧0≤(pfl n (p.getD x.i pk0)).cl ∧(pfl n (p.getD x.i pk0)).cl <(n.ln.getD l ln0).n ∧(∃k,hp (toF n p) l x.i=some k):=by
 obtain⟨h1,⟨k,h2,h3⟩,h4⟩:=((qu_ok (toF n p) D l).m x).1 hx
 have h1:x.i<p.length:=h1
 obtain⟨_,_,t1,t2,hG,s1,s2⟩:=h.fl h1
 obtain⟨k1,k2⟩:=hp_some h2
 have k3:k<(pfl n (p.getD x.i pk0)).rt.length :=by simpa [toF]using k1
 have hc:=hG.c k k3
 have hl:=(h.lnn h1 k1).1
 rw [k2]at hl
 rw [←hl,Int.toNat_natCast]at hc
 have ha:0≤x.a∧x.a≤2000:=by
  unfold arr at h3
  split at h3
  ·have e:(p.getD x.i pk0).t =x.a:=Option.some.inj h3
   omega
  ·split at h3
   ·rename_i hk0 hall
    have e:D x.i (k-1)+1=x.a:=Option.some.inj h3
    have:=hall (k-1) (by omega)
    have:=hb x.i (k-1) h1 (by omega)
    omega
   ·cases h3
 have:=hG.s1;have:=hG.s2
 exact⟨h1,by omega,by omega,ha.1,ha.2,hc.1,hc.2,k,h2⟩
theorem qu_len (n:Nt) (p:List Pk) (D:Tp) (l:Nat):(qu (toF n p) D l).length ≤p.length:=by
 have:=quL_len (n:=n) (p:=p) (D:=D) (l:=l) p.length
 rw [quL_nat]at this
 exact this
def enT (p:List Pk):Nat→Int
 |0=>1
 |i+1=>max (enT p i) ((p.getD i pk0).t +1)
def enS (p:List Pk):Nat→Int
 |0=>0
 |i+1=>enS p i+((p.getD i pk0).s +41)
def enN (p:List Pk):Int:=enT p p.length+enS p p.length
theorem enT_ge {p:List Pk}:∀{m i:Nat},i<m→(p.getD i pk0).t +1≤enT p m
 |m+1,i,h=>by
  simp only [enT]
  rcases Nat.lt_succ_iff_lt_or_eq.1 h with h|h
  ·have:=enT_ge (p:=p) h;omega
  ·subst h;omega
theorem enT_one {p:List Pk}:∀{m:Nat},1≤enT p m
 |0=>by simp [enT]
 |m+1=>by have:=enT_one (p:=p) (m:=m);simp only [enT];omega
theorem enT_le {p:List Pk} {B:Int}:∀{m:Nat},1≤B→(∀i,i<m→(p.getD i pk0).t +1≤B)→enT p m≤B
 |0,h,_=>h
 |m+1,h,h2=>by have:=enT_le (p:=p) (m:=m) h fun i hi=>h2 i (by omega);have:=h2 m (by omega);simp only [enT];omega
theorem enS_eq {p:List Pk}:∀{m:Nat},(∀i,i<m→1≤(p.getD i pk0).s)→enS p m=((sumN (sz p) m+41*m:Nat):Int)
 |0,_=>by simp [enS,sumN]
 |m+1,h=>by
  have:=enS_eq (p:=p) (m:=m) fun i hi=>h i (by omega)
  have h2:=h m (by omega)
  simp only [enS,sumN]
  rw [this]
  unfold sz
  omega
theorem enS_le {p:List Pk}:∀{m:Nat},(∀i,i<m→1≤(p.getD i pk0).s ∧(p.getD i pk0).s ≤1500)→0≤enS p m∧enS p m≤1541*m
 |0,_=>by simp [enS]
 |m+1,h=>by
  have:=enS_le (p:=p) (m:=m) fun i hi=>h i (by omega)
  have h2:=h m (by omega)
  simp only [enS]
  omega
theorem run_min {C:Ch} {p:List Pk} (hp:Asc p) (hs:∀i,i<p.length→1≤(p.getD i pk0).s) {c L N:Nat} (hC:Idle C p c L) (hL:L≤40) (hc:1≤c):
  (run C p c (min (N:Int) (enN p)).toNat).dn =(run C p c N).dn :=by
 have h1:=enT_one (p:=p) (m:=p.length)
 have h2:=enS_eq (p:=p) (m:=p.length) hs
 have h3:(L-1)*p.length≤39*p.length:=Nat.mul_le_mul_right _ (by omega)
 have h4:enN p=enT p p.length+enS p p.length:=rfl
 by_cases h:(N:Int)≤enN p
 ·rw [show(min (N:Int) (enN p)).toNat =N by omega]
 ·have hpos:Pos p:=fun i hi=>by have:=hs i hi;unfold sz;omega
  refine run_enough hp hpos hC hc (last:=(enT p p.length-1).toNat) (fun i hi=>?_) ?_ ?_
  ·have:=enT_ge (p:=p) hi;unfold tm;omega
  ·unfold byt;omega
  ·unfold byt;omega
def inQ (q:List Wt) (i:Nat):Bool:=q.any fun x=>decide (x.i=i)
theorem inQ_iff {q:List Wt} {i:Nat}:inQ q i=true↔∃x∈q,x.i=i:=by simp [inQ]
theorem inQ_take {q:List Wt} {k:Nat} (hk:k<q.length) (i:Nat):inQ (q.take (k+1)) i=(inQ (q.take k) i||decide (q[k].i =i)):=by
 unfold inQ
 rw [List.take_succ_eq_append_getElem hk,List.any_append]
 simp
theorem Qu.fresh {F:Tf} {D:Tp} {l:Nat} {q:List Wt} (h:Qu F D l q) {k:Nat} (hk:k<q.length):inQ (q.take k) q[k].i =false:=by
 cases hb:inQ (q.take k) q[k].i with
 |false=>rfl
 |true=>
  obtain⟨x,hx,e⟩:=inQ_iff.1 hb
  obtain⟨j,hj,rfl⟩:=List.mem_iff_getElem.1 hx
  rw [List.length_take]at hj
  rw [List.getElem_take]at e
  have:=h.inj (by omega) hk e
  omega
theorem Qu.hp {F:Tf} {D:Tp} {l:Nat} {q:List Wt} (h:Qu F D l q) {x:Wt} (hx:x∈q):x.i<F.np∧∃k,Mc.hp F l x.i=some k:=by
 obtain⟨h1,⟨k,h2,_⟩,_⟩:=(h.m x).1 hx
 exact⟨h1,k,h2⟩
theorem pas_out {F:Tf} {Z:Li} {N l i:Nat} {D:Tp} {q:List Wt} (h:Qu F D l q) (hi:inQ q i=false):pas F Z N D l i= -1:=by
 have e:=h.uniq (qu_ok F D l)
 subst e
 unfold pas
 rw [plc_none.2 fun x hx e=>?_]
 have:inQ (qu F D l) i=true:=inQ_iff.2 ⟨x,hx,e⟩
 rw [hi]at this;cases this
theorem nte_ext {F:Tf} {Z:Li} {N l:Nat} {ms:List (List Int)} {S S':Nat→Bool} (h:∀i,i<ms.length→S i=S' i):nteM F Z N l ms S=nteM F Z N l ms S':=
 rows_ext (by rw [nte_len,nte_len]) (fun _=>by rw [nte_rlen,nte_rlen]) fun i j hi hj=>by
  rw [nte_len]at hi
  rw [nte_rlen]at hj
  rw [nte_at hj,nte_at hj,h i hi]
theorem chg_ext {F:Tf} {Z:Li} {N l:Nat} {ms:List (List Int)} {S S':Nat→Bool} (h:∀i,i<F.np→S i=S' i):ChgM F Z N l ms S↔ChgM F Z N l ms S':=
 ⟨fun⟨i,k,a,b,c⟩=>⟨i,k,a,by rw [←h i a];exact b,c⟩,fun⟨i,k,a,b,c⟩=>⟨i,k,a,by rw [h i a];exact b,c⟩⟩
theorem chg_none {F:Tf} {Z:Li} {N l:Nat} {ms:List (List Int)} {S:Nat→Bool} (h:∀i,S i=false):¬ChgM F Z N l ms S:=fun⟨i,_,_,b,_⟩=>by rw [h i]at b;cases b
end Go.Mc
end
namespace Go.Proofs.YtjhmjiimpmmnhaaGreat
section
open Go.Sx Go.Cv Go.Gd Go.Np Go.Pk Go.St Go.Mc
noncomputable abbrev bldF (f:Fl) (i:Nat) (o c:Int):List Pk:=(greG f.v f.p f.q f.hi o c).1.map fun t=>⟨i,t,f.hi⟩
noncomputable def bldL (n:Nt) (os cs:List Int):Nat→List Pk
 |0=>[]
 |i+1=>bldL n os cs i++bldF (n.fl.getD i fl0) i (os.getD i 0) (cs.getD i 0)
noncomputable def bldE (n:Nt) (os cs:List Int):Nat→Int
 |0=>0
 |i+1=>if bldE n os cs i≠0 then bldE n os cs i else(greG (n.fl.getD i fl0).v (n.fl.getD i fl0).p (n.fl.getD i fl0).q (n.fl.getD i fl0).hi (os.getD i 0) (cs.getD i 0)).2
noncomputable def bldG (n:Nt) (os cs:List Int):List Pk×Int:=
 if chkN n≠0 then([],6)else if os.length≠n.fl.length∨cs.length≠n.fl.length then([],2)else if bldE n os cs n.fl.length≠0 then([],bldE n os cs n.fl.length)else if 60<(bldL n os cs n.fl.length).length then([],3)else(srt ptm (bldL n os cs n.fl.length),0)
theorem greG_len (vs:List Int) (p q s o c:Int):(greG vs p q s o c).1.length ≤60∧∀x∈(greG vs p q s o c).1,0≤x∧x≤380:=by
 unfold greG
 split
 ·simp
 ·split
  ·simp
  ·obtain⟨u,g,_⟩:=gre_sp (val vs p.toNat q) s c.toNat o
   have:=g.l
   exact⟨by simp only;omega,fun x hx=>by have:=g.bd hx;omega⟩
theorem bldL_len (n:Nt) (os cs:List Int):∀i,(bldL n os cs i).length ≤60*i
 |0=>by simp [bldL]
 |i+1=>by
  have:=bldL_len n os cs i
  have h:=(greG_len (n.fl.getD i fl0).v (n.fl.getD i fl0).p (n.fl.getD i fl0).q (n.fl.getD i fl0).hi (os.getD i 0) (cs.getD i 0)).1
  simp only [bldL,List.length_append,List.length_map]
  omega
theorem bldE_ge {n : Nt} {os cs : List Int} {i : Nat} (h : bldE n os cs i ≠ 0) : ∀ m, i ≤ m → bldE n os cs m = bldE n os cs i := by
  intro m
  induction m with
  | zero => intro hi; obtain rfl : i = 0 := by omega
            rfl
  | succ m ih =>
    intro hi
    by_cases e : i = m + 1
    · subst e; rfl
    · have := ih (by omega)
      simp only [bldE]; rw [if_pos (by rw [this]; exact h), this]
theorem bldC_ok:CmpOK 47 ptm:=fun a b=>by
 refine Ctr.impE (Q:=fun c=>c<0↔a.t<b.t) (s:=fun c=>i64 c) (ow:=fun _=>[]) ?_
 refine fI 0 Tryz.func47 ?_
 (repeat' (conv=>whnf);first|refine aC ?_ ?_<;>intro<;>try omega|refine z2_T11 ?_|(refine aK [] (cmp_ok a.t b.t) ?_)|fail);all_goals try (conv=>whnf)
 exact⟨_,by unfold cmpI;split<;>(try split)<;>omega,rfl,Imp.refl _⟩
theorem z3_J5 {G H:Prop} (k:H) (h:H→G:=by first|exact fun r=>aS r|exact fun r=>aG r|exact fun r=>aD r|exact fun r=>aP_T11 r|exact fun r=>aI r|exact fun r=>aJ r|exact fun r=>aW (.qs [0,1,2,3,4,5,6,7,8,9,10,11,12] (.l 13 [] (.qs [14,15,16,17,18] .nil) .no)) r):G:=h k
theorem z2_J5 {G H:Prop} (k:H) (h:H→G:=by first|exact fun r=>aS r|exact fun r=>aG r|exact fun r=>aD r|exact fun r=>aH r|exact fun r=>aP_T11 r|exact fun r=>aI r|exact fun r=>aJ r|exact fun r=>aW (.qs [0,1,2,3,4,5,6,7,8,9,10,11,12] (.l 13 [] (.qs [14,15,16,17,18] .nil) .no)) r):G:=h k
theorem Build_ok (n:Nt) (hn:NL n) (os cs:List Int) (hos:os.length≤1000000) (hcs:cs.length≤1000000):
  Ctr Tryz.prog 19 [ntv n, .psl 1 (ints os), .psl 1 (ints cs)] [] (fun r o=>o=[]∧r= .tup [.psl 3 (pks (bldG n os cs).1),i64 (bldG n os cs).2]):=by
 refine Ctr.imp ?_
 refine fI 0 Tryz.func19 ?_
 have hol:=ints_len os
 have hcl:=ints_len cs
 have hfl:=fll n.fl
 have hnf:=hn.fl
 have cK:=Check_ok n hn
 unfold bldG
 by_cases hc:chkN n=0
 ·rw [if_neg (by simpa using hc)]
  rw [hc]at cK
  by_cases hl:os.length≠n.fl.length∨cs.length≠n.fl.length
  ·rw [if_pos hl]
   (repeat' (conv=>whnf);first|refine AsgOb.nil ?_|refine aC ?_ ?_<;>intro<;>try omega|refine z2_J5 ?_|(refine aK [] (cK) ?_)|fail);all_goals try (conv=>whnf)
   all_goals exact⟨rfl,Imp.tup ⟨Imp.nil _,Imp.refl _,trivial⟩⟩
  ·rw [if_neg hl]
   have h10:=chk_n hc
   (repeat' (conv=>whnf);first|refine aC ?_ ?_<;>intro<;>try omega|refine z2_J5 ?_|(refine aK [] (cK) ?_)|fail);all_goals try (conv=>whnf)
   refine LoopOb.mk (Y:=Nat) (st:=fun i=>⟨[(35,i64 i),(34,i64 (fls n.fl).length),(33, .psl 8 (fls n.fl)),(8, .vec 1),(3, .ptr 0 0),(1, .psl 1 (ints os)),(2, .psl 1 (ints cs))],[.box [.psl 1 (strs n.nm), .psl 5 (lns n.ln), .psl 8 (fls n.fl)], .vec 3 (pks (bldL n os cs i))]⟩)
    (inv:=fun i=>i≤n.fl.length∧bldE n os cs i=0) (fun i=>n.fl.length-i) 0 [0,2] ⟨by omega,rfl⟩ (by(exact aL)) ?_
   rintro i ⟨hi,he⟩
   by_cases hil:i<n.fl.length
   ·have hfg:=flg (l:=n.fl) (i:=i) hil
    have hog:=ints_get (l:=os) (j:=i) (by omega)
    have hcg:=ints_get (l:=cs) (j:=i) (by omega)
    have hll:=bldL_len n os cs i
    have hE:bldE n os cs (i+1)=(greG (n.fl.getD i fl0).v (n.fl.getD i fl0).p (n.fl.getD i fl0).q (n.fl.getD i fl0).hi (os.getD i 0) (cs.getD i 0)).2 :=by simp only [bldE];rw [if_neg (by omega)]
    have hL:bldL n os cs (i+1)=bldL n os cs i++bldF (n.fl.getD i fl0) i (os.getD i 0) (cs.getD i 0):=rfl
    have hge:=fun h=>bldE_ge (n:=n) (os:=os) (cs:=cs) (i:=i+1) h n.fl.length hil
    generalize n.fl.getD i fl0=f at*
    generalize os.getD i 0=o at*
    generalize cs.getD i 0=c at*
    have cG:=Greedy_ok f.v f.p f.q f.hi o c
    have hgl:=greG_len f.v f.p f.q f.hi o c
    have hbf:bldF f i o c=(greG f.v f.p f.q f.hi o c).1.map fun t=>⟨i,t,f.hi⟩:=rfl
    rw [hbf]at hL
    generalize greG f.v f.p f.q f.hi o c=G at*
    obtain⟨T,e⟩:=G
    dsimp only at*
    by_cases he0:e=0
    ·subst he0
     (repeat' (conv=>whnf);first|refine⟨i,_,rfl,hcg,?_⟩|refine⟨i,_,rfl,hog,?_⟩|refine⟨i,_,rfl,hfg,?_⟩|refine aC ?_ ?_<;>intro<;>try omega|refine z2_J5 ?_|(refine aK [] (cG) ?_)|fail);all_goals try (conv=>whnf)
     have htl:=ints_len T
     refine LoopOb.mk (Y:=Nat) (st:=fun k=>⟨[(62,i64 k),(61,i64 (ints T).length),(60, .psl 1 (ints T)),(9,i64 i),(10, .ptr 2 0),(35,i64 i),(34,i64 (fls n.fl).length),(33, .psl 8 (fls n.fl)),(8, .vec 1),(3, .ptr 0 0),(1, .psl 1 (ints os)),(2, .psl 1 (ints cs))],[.box [.psl 1 (strs n.nm), .psl 5 (lns n.ln), .psl 8 (fls n.fl)], .vec 3 (pks (bldL n os cs i++(T.take k).map fun t=>⟨i,t,f.hi⟩)), .box (flv f)]⟩)
      (inv:=fun k=>k≤T.length) (fun k=>T.length-k) 0 [0,1,2] (by omega) (by rw [List.take_zero,List.map_nil,List.append_nil];(exact aL)) ?_
     rintro k hk
     by_cases hkl:k<T.length
     ·have hg:=ints_get (l:=T) (j:=k) hkl
      have hnx:pks (bldL n os cs i++(T.take (k+1)).map fun t=>(⟨i,t,f.hi⟩:Pk))=pks (bldL n os cs i++(T.take k).map fun t=>⟨i,t,f.hi⟩)++[[i64 i,i64 (T.getD k 0),i64 f.hi]]:=by
       rw [List.take_succ_eq_append_getElem hkl,show T.getD k 0=T[k]by rw [List.getD_eq_getElem?_getD,List.getElem?_eq_getElem hkl];rfl]
       simp only [pks,List.map_append,List.map_cons,List.map_nil,List.append_assoc]
      have hml:(bldL n os cs i++(T.take k).map fun t=>(⟨i,t,f.hi⟩:Pk)).length ≤660:=by simp only [List.length_append,List.length_map,List.length_take];omega
      generalize bldL n os cs i++(T.take k).map (fun t=>(⟨i,t,f.hi⟩:Pk))=L at*
      generalize T.getD k 0=t at*
      have hLl:=pks_len L
      (repeat' (conv=>whnf);first|refine⟨k,_,rfl,hg,?_⟩|refine aC ?_ ?_<;>intro<;>try omega|refine z2_J5 ?_|fail);all_goals try (conv=>whnf)
      exact⟨k+1,[0,4,2],by omega,by omega,by rw [hnx];(exact aL)⟩
     ·obtain rfl:k=T.length:=by omega
      rw [List.take_length,←hL]
      (repeat' (conv=>whnf);first|refine aC ?_ ?_<;>intro<;>try omega|refine z2_J5 ?_|fail);all_goals try (conv=>whnf)
      exact⟨i+1,[0,1],⟨by omega,hE⟩,by omega,by(exact aL)⟩
    ·have he1:=hge (by rw [hE];exact he0)
     rw [hE]at he1
     rw [he1,if_pos he0]
     (repeat' (conv=>whnf);first|refine⟨i,_,rfl,hcg,?_⟩|refine⟨i,_,rfl,hog,?_⟩|refine⟨i,_,rfl,hfg,?_⟩|refine AsgOb.nil ?_|refine aC ?_ ?_<;>intro<;>try omega|refine z2_J5 ?_|(refine aK [] (cG) ?_)|fail);all_goals try (conv=>whnf)
     exact⟨rfl,Imp.tup ⟨Imp.nil _,Imp.refl _,trivial⟩⟩
   ·obtain rfl:i=n.fl.length:=by omega
    rw [he,if_neg (by simp)]
    have hll:=bldL_len n os cs n.fl.length
    generalize bldL n os cs n.fl.length=L at*
    have hLl:=pks_len L
    by_cases h60:60<L.length
    ·rw [if_pos h60]
     (repeat' (conv=>whnf);first|refine AsgOb.nil ?_|refine aC ?_ ?_<;>intro<;>try omega|refine z2_J5 ?_|fail);all_goals try (conv=>whnf)
     exact⟨rfl,Imp.tup ⟨Imp.nil _,Imp.refl _,trivial⟩⟩
    ·rw [if_neg h60]
     have cS:=SortStableN_ok _ _ bldC_ok L (by omega)
     (repeat' (conv=>whnf);first|refine aC ?_ ?_<;>intro<;>try omega|refine z3_J5 ?_|(refine Gh.mk [] ?_;(conv=>whnf);refine aK [1] cS ?_)|fail);all_goals try (conv=>whnf)
     refine .mk [.fz 1] ?_
     (repeat' (conv=>whnf);first|refine aC ?_ ?_<;>intro<;>try omega|refine z2_J5 ?_|fail);all_goals try (conv=>whnf)
     exact⟨rfl,Imp.refl _⟩
 ·rw [if_pos hc]
  (repeat' (conv=>whnf);first|refine AsgOb.nil ?_|refine aC ?_ ?_<;>intro<;>try omega|refine z2_J5 ?_|(refine aK [] (cK) ?_)|fail);all_goals try (conv=>whnf)
  all_goals first
   |exact⟨rfl,Imp.tup ⟨Imp.nil _,Imp.refl _,trivial⟩⟩
   |exact absurd (by assumption) hc
end
section
open Go.Sx Go.Pk Go.Mc
abbrev bls (m:Nat) (f:Nat→Bool):List (List SV):=(List.range m).map fun b=>[.bl (f b)]
abbrev ivs (m:Nat) (f:Nat→Int):List (List SV):=(List.range m).map fun b=>[i64 (f b)]
theorem bls_len (m:Nat) (f:Nat→Bool):(bls m f).length =m:=by simp [bls]
theorem ivs_len (m:Nat) (f:Nat→Int):(ivs m f).length =m:=by simp [ivs]
theorem bls_get {m b:Nat} {f:Nat→Bool} (h:b<m):(bls m f)[b]? =some [.bl (f b)]:=by simp [bls,h]
theorem ivs_get {m b:Nat} {f:Nat→Int} (h:b<m):(ivs m f)[b]? =some [i64 (f b)]:=by simp [ivs,h]
theorem map_upd {α β:Type} {m b:Nat} {f:Nat→α} {v:α} {g:α→β}:((List.range m).map fun i=>g (f i)).set b (g v)=(List.range m).map fun i=>g (upd f b v i):=by
 apply List.ext_getElem?;intro j
 rw [List.getElem?_set]
 by_cases e:b=j
 ·subst e
  rw [if_pos rfl]
  by_cases h:b<m
  ·simp [h,upd_same]
  ·simp [h]
 ·rw [if_neg e]
  by_cases h:j<m
  ·simp [h,upd_ne (fun e'=>e e'.symm)]
  ·simp [h]
theorem bls_set {m b:Nat} {f:Nat→Bool} {v:Bool}:(bls m f).set b [.bl v]=bls m (upd f b v):=map_upd (g:=fun x=>[SV.bl x])
theorem ivs_set {m b:Nat} {f:Nat→Int} {v:Int}:(ivs m f).set b [i64 v]=ivs m (upd f b v):=map_upd (g:=fun x=>[i64 x])
theorem bls_rep (m:Nat) (v:Bool):List.replicate m [SV.bl v]=bls m fun _=>v:=by
 apply List.ext_getElem?;intro j
 by_cases h:j<m<;>simp [bls,h]
theorem ivs_rep (m:Nat) (v:Int):List.replicate m [i64 v]=ivs m fun _=>v:=by
 apply List.ext_getElem?;intro j
 by_cases h:j<m<;>simp [ivs,h]
def oI:Option Nat→Int
 |none=> -1
 |some i=>i
abbrev stB (now left:Int) (p:List Pk) (bef:Nat):Chunk:= .box [i64 now,i64 left, .psl 3 (pks p), .vec 1,i64 bef]
structure PL (p:List Pk):Prop where
 l:p.length≤60
 a:Asc p
 s:∀i,i<p.length→1≤(p.getD i pk0).s ∧(p.getD i pk0).s ≤1500
 t:∀i,i<p.length→0≤(p.getD i pk0).t ∧(p.getD i pk0).t ≤2000
end
end Go.Proofs.YtjhmjiimpmmnhaaGreat
