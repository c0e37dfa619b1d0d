/- Lemmas that the proofs of this seat use (Mtt So3). Conditions: those that stand in each theorem. -/
import Derived.Test.YtaomhdljcdadaaaGreatSh
import Derived.Test.YtaomhdljcdadaaaGreatS9
import Derived.Test.YtaomhdljcdadaaaGreatS4
set_option linter.unusedVariables false
set_option linter.unusedSimpArgs false
section
namespace Go.Mc
open Go.Pk Go.Np
structure RtG (n:Nt) (f:Fl):Prop where
 l1:1≤f.rt.length
 l2:f.rt.length≤4
 b:∀i,i<f.rt.length→0≤f.rt.getD i 0∧f.rt.getD i 0<n.ln.length
 d:∀i j,i<j→j<f.rt.length→f.rt.getD i 0≠f.rt.getD j 0
 c:∀i,i<f.rt.length→0≤f.cl∧f.cl<(n.ln.getD (f.rt.getD i 0).toNat ln0).n
 s1:1≤f.lo
 s2:f.hi≤1500
theorem mem_takeG {l:List Int} {i j:Nat} (h1:j<i) (h2:j<l.length):l.getD j 0∈l.take i:=by
 rw [List.mem_iff_getElem]
 refine⟨j,by rw [List.length_take];omega,?_⟩
 rw [List.getElem_take]
 simp [List.getD_eq_getElem?_getD,h2]
theorem chk_rt {n:Nt} (h:chkN n=0) {j:Nat} (hj:j<n.fl.length):RtG n (n.fl.getD j fl0):=by
 have h1:=(chkN_zero h).2.2.2 j hj
 unfold flowE at h1
 generalize n.fl.getD j fl0=f at*
 split at h1
 ·exact absurd h1 (by assumption)
 ·split at h1
  ·exact absurd h1 (by assumption)
  ·rename_i _ h2
   have hs:1≤f.lo∧f.hi≤1500:=by
    unfold trafE at h1
    split at h1
    ·cases h1
    ·omega
   have h:routeE n.ln f=0:=by omega
   unfold routeE at h
   split at h
   ·omega
   ·split at h
    ·omega
    ·rename_i h1 h2
     have hz:=firstE_zero h
     have key:∀i,i<f.rt.length→(0≤f.rt.getD i 0∧f.rt.getD i 0<n.ln.length)∧f.rt.getD i 0∉f.rt.take i∧0≤f.cl∧f.cl<(n.ln.getD (f.rt.getD i 0).toNat ln0).n :=by
      intro i hi
      have h3:=hz i hi
      unfold hopE at h3
      split at h3
      ·omega
      ·split at h3
       ·omega
       ·split at h3
        ·omega
        ·exact⟨by omega,by assumption,by omega,by omega⟩
     refine⟨by omega,by omega,fun i hi=>(key i hi).1,fun i j hij hj e=>?_,fun i hi=>(key i hi).2.2,hs.1,hs.2⟩
     have:=(key j hj).2.1
     rw [←e]at this
     exact this (mem_takeG hij (by omega))
theorem chk_ln {n:Nt} (h:chkN n=0) {j:Nat} (hj:j<n.ln.length):lnErr (n.ln.getD j ln0)=0:=by
 have h1:=(chkN_zero h).2.2.1 j hj
 unfold lineE at h1
 split at h1
 ·exact absurd h1 (by assumption)
 ·exact h1
theorem chk_n {n:Nt} (h:chkN n=0):n.ln.length≤8∧n.fl.length≤10:=by
 have h1:=(chkN_zero h).1
 omega
theorem SkP.fl {n:Nt} {p:List Pk} (h:SkP n p) {i:Nat} (hi:i<p.length):0≤(p.getD i pk0).f ∧(p.getD i pk0).f <n.fl.length∧0≤(p.getD i pk0).t ∧(p.getD i pk0).t ≤380∧RtG n (pfl n (p.getD i pk0))∧(pfl n (p.getD i pk0)).lo ≤(p.getD i pk0).s ∧(p.getD i pk0).s ≤(pfl n (p.getD i pk0)).hi :=by
 have h1:=h.g i hi
 unfold bdP at h1
 refine⟨by omega,by omega,by omega,by omega,chk_rt h.h (by omega),by omega,by omega⟩
theorem SkP.rt {n:Nt} {p:List Pk} (h:SkP n p):RtP n p:=by
 refine⟨fun i hi=>⟨(h.fl hi).1,(h.fl hi).2.1⟩,fun i hi x hx=>?_⟩
 obtain⟨_,_,_,_,hG,_⟩:=h.fl hi
 obtain⟨j,hj,rfl⟩:=List.mem_iff_getElem.1 hx
 have:=(hG.b j hj).1
 rw [List.getD_eq_getElem?_getD,List.getElem?_eq_getElem hj]at this
 exact this
theorem SkP.lnn {n:Nt} {p:List Pk} (h:SkP n p) {i k:Nat} (hi:i<p.length) (hk:k<((toF n p).rt i).length):((lin (toF n p) i k:Nat):Int)=(pfl n (p.getD i pk0)).rt.getD k 0∧lin (toF n p) i k<n.ln.length:=by
 obtain⟨_,_,_,_,hG,_⟩:=h.fl hi
 have hk2:k<(pfl n (p.getD i pk0)).rt.length :=by simpa [toF]using hk
 have hb:=hG.b k hk2
 have e:lin (toF n p) i k=((pfl n (p.getD i pk0)).rt.getD k 0).toNat :=by
  show((pfl n (p.getD i pk0)).rt.map Int.toNat).getD k 0=_
  generalize (pfl n (p.getD i pk0)).rt =r at hk2⊢
  rw [List.getD_eq_getElem?_getD,List.getElem?_map,List.getD_eq_getElem?_getD,List.getElem?_eq_getElem hk2];rfl
 rw [e];omega
theorem SkP.rts {n:Nt} {p:List Pk} (h:SkP n p):Rts (toF n p):=by
 intro i hi
 obtain⟨_,_,_,_,hG,_⟩:=h.fl hi
 show((pfl n (p.getD i pk0)).rt.map Int.toNat).Nodup
 generalize pfl n (p.getD i pk0)=f at hG
 refine List.pairwise_iff_getElem.2 fun a b ha hb hab=>?_
 rw [List.length_map]at hb
 rw [List.getElem_map,List.getElem_map]
 have h1:=hG.b a (by omega)
 have h2:=hG.b b hb
 have h3:=hG.d a b hab hb
 rw [List.getD_eq_getElem?_getD,List.getElem?_eq_getElem (Nat.lt_trans hab hb)]at h1 h3
 rw [List.getD_eq_getElem?_getD,List.getElem?_eq_getElem hb]at h2 h3
 simp only [Option.getD_some,ne_eq]at*
 omega
theorem SkP.qu {n:Nt} {p:List Pk} (h:SkP n p) {D:Tp} {N:Nat} (hN:N≤2000) (hb:∀i k,i<p.length→k<((toF n p).rt i).length →D i k<N) {l:Nat} {x:Wt} (hx:x∈qu (toF n p) D l):
  x.i<p.length∧1≤(p.getD x.i pk0).s ∧(p.getD x.i pk0).s ≤1500∧0≤x.a∧x.a≤2000∧0≤(pfl n (p.getD x.i pk0)).cl ∧(pfl n (p.getD x.i pk0)).cl <(n.ln.getD l ln0).n ∧(∃k,hp (toF n p) l x.i=some k):=by
 obtain⟨h1,⟨k,h2,h3⟩,h4⟩:=((qu_ok (toF n p) D l).m x).1 hx
 have h1:x.i<p.length:=h1
 obtain⟨_,_,t1,t2,hG,s1,s2⟩:=h.fl h1
 obtain⟨k1,k2⟩:=hp_some h2
 have k3:k<(pfl n (p.getD x.i pk0)).rt.length :=by simpa [toF]using k1
 have hc:=hG.c k k3
 have hl:=(h.lnn h1 k1).1
 rw [k2]at hl
 rw [←hl,Int.toNat_natCast]at hc
 have ha:0≤x.a∧x.a≤2000:=by
  unfold arr at h3
  split at h3
  ·have e:(p.getD x.i pk0).t =x.a:=Option.some.inj h3
   omega
  ·split at h3
   ·rename_i hk0 hall
    have e:D x.i (k-1)+1=x.a:=Option.some.inj h3
    have:=hall (k-1) (by omega)
    have:=hb x.i (k-1) h1 (by omega)
    omega
   ·cases h3
 have:=hG.s1;have:=hG.s2
 exact⟨h1,by omega,by omega,ha.1,ha.2,hc.1,hc.2,k,h2⟩
theorem qu_len (n:Nt) (p:List Pk) (D:Tp) (l:Nat):(qu (toF n p) D l).length ≤p.length:=by
 have:=quL_len (n:=n) (p:=p) (D:=D) (l:=l) p.length
 rw [quL_nat]at this
 exact this
def enT (p:List Pk):Nat→Int
 |0=>1
 |i+1=>max (enT p i) ((p.getD i pk0).t +1)
def enS (p:List Pk):Nat→Int
 |0=>0
 |i+1=>enS p i+((p.getD i pk0).s +41)
def enN (p:List Pk):Int:=enT p p.length+enS p p.length
theorem enT_ge {p:List Pk}:∀{m i:Nat},i<m→(p.getD i pk0).t +1≤enT p m
 |m+1,i,h=>by
  simp only [enT]
  rcases Nat.lt_succ_iff_lt_or_eq.1 h with h|h
  ·have:=enT_ge (p:=p) h;omega
  ·subst h;omega
theorem enT_one {p:List Pk}:∀{m:Nat},1≤enT p m
 |0=>by simp [enT]
 |m+1=>by have:=enT_one (p:=p) (m:=m);simp only [enT];omega
theorem enT_le {p:List Pk} {B:Int}:∀{m:Nat},1≤B→(∀i,i<m→(p.getD i pk0).t +1≤B)→enT p m≤B
 |0,h,_=>h
 |m+1,h,h2=>by have:=enT_le (p:=p) (m:=m) h fun i hi=>h2 i (by omega);have:=h2 m (by omega);simp only [enT];omega
theorem enS_eq {p:List Pk}:∀{m:Nat},(∀i,i<m→1≤(p.getD i pk0).s)→enS p m=((sumN (sz p) m+41*m:Nat):Int)
 |0,_=>by simp [enS,sumN]
 |m+1,h=>by
  have:=enS_eq (p:=p) (m:=m) fun i hi=>h i (by omega)
  have h2:=h m (by omega)
  simp only [enS,sumN]
  rw [this]
  unfold sz
  omega
theorem enS_le {p:List Pk}:∀{m:Nat},(∀i,i<m→1≤(p.getD i pk0).s ∧(p.getD i pk0).s ≤1500)→0≤enS p m∧enS p m≤1541*m
 |0,_=>by simp [enS]
 |m+1,h=>by
  have:=enS_le (p:=p) (m:=m) fun i hi=>h i (by omega)
  have h2:=h m (by omega)
  simp only [enS]
  omega
theorem run_min {C:Ch} {p:List Pk} (hp:Asc p) (hs:∀i,i<p.length→1≤(p.getD i pk0).s) {c L N:Nat} (hC:Idle C p c L) (hL:L≤40) (hc:1≤c):
  (run C p c (min (N:Int) (enN p)).toNat).dn =(run C p c N).dn :=by
 have h1:=enT_one (p:=p) (m:=p.length)
 have h2:=enS_eq (p:=p) (m:=p.length) hs
 have h3:(L-1)*p.length≤39*p.length:=Nat.mul_le_mul_right _ (by omega)
 have h4:enN p=enT p p.length+enS p p.length:=rfl
 by_cases h:(N:Int)≤enN p
 ·rw [show(min (N:Int) (enN p)).toNat =N by omega]
 ·have hpos:Pos p:=fun i hi=>by have:=hs i hi;unfold sz;omega
  refine run_enough hp hpos hC hc (last:=(enT p p.length-1).toNat) (fun i hi=>?_) ?_ ?_
  ·have:=enT_ge (p:=p) hi;unfold tm;omega
  ·unfold byt;omega
  ·unfold byt;omega
def inQ (q:List Wt) (i:Nat):Bool:=q.any fun x=>decide (x.i=i)
theorem inQ_iff {q:List Wt} {i:Nat}:inQ q i=true↔∃x∈q,x.i=i:=by simp [inQ]
theorem inQ_take {q:List Wt} {k:Nat} (hk:k<q.length) (i:Nat):inQ (q.take (k+1)) i=(inQ (q.take k) i||decide (q[k].i =i)):=by
 unfold inQ
 rw [List.take_succ_eq_append_getElem hk,List.any_append]
 simp
theorem Qu.fresh {F:Tf} {D:Tp} {l:Nat} {q:List Wt} (h:Qu F D l q) {k:Nat} (hk:k<q.length):inQ (q.take k) q[k].i =false:=by
 cases hb:inQ (q.take k) q[k].i with
 |false=>rfl
 |true=>
  obtain⟨x,hx,e⟩:=inQ_iff.1 hb
  obtain⟨j,hj,rfl⟩:=List.mem_iff_getElem.1 hx
  rw [List.length_take]at hj
  rw [List.getElem_take]at e
  have:=h.inj (by omega) hk e
  omega
theorem Qu.hp {F:Tf} {D:Tp} {l:Nat} {q:List Wt} (h:Qu F D l q) {x:Wt} (hx:x∈q):x.i<F.np∧∃k,Mc.hp F l x.i=some k:=by
 obtain⟨h1,⟨k,h2,_⟩,_⟩:=(h.m x).1 hx
 exact⟨h1,k,h2⟩
theorem pas_out {F:Tf} {Z:Li} {N l i:Nat} {D:Tp} {q:List Wt} (h:Qu F D l q) (hi:inQ q i=false):pas F Z N D l i= -1:=by
 have e:=h.uniq (qu_ok F D l)
 subst e
 unfold pas
 rw [plc_none.2 fun x hx e=>?_]
 have:inQ (qu F D l) i=true:=inQ_iff.2 ⟨x,hx,e⟩
 rw [hi]at this;cases this
theorem nte_ext {F:Tf} {Z:Li} {N l:Nat} {ms:List (List Int)} {S S':Nat→Bool} (h:∀i,i<ms.length→S i=S' i):nteM F Z N l ms S=nteM F Z N l ms S':=
 rows_ext (by rw [nte_len,nte_len]) (fun _=>by rw [nte_rlen,nte_rlen]) fun i j hi hj=>by
  rw [nte_len]at hi
  rw [nte_rlen]at hj
  rw [nte_at hj,nte_at hj,h i hi]
theorem chg_ext {F:Tf} {Z:Li} {N l:Nat} {ms:List (List Int)} {S S':Nat→Bool} (h:∀i,i<F.np→S i=S' i):ChgM F Z N l ms S↔ChgM F Z N l ms S':=
 ⟨fun⟨i,k,a,b,c⟩=>⟨i,k,a,by rw [←h i a];exact b,c⟩,fun⟨i,k,a,b,c⟩=>⟨i,k,a,by rw [h i a];exact b,c⟩⟩
theorem chg_none {F:Tf} {Z:Li} {N l:Nat} {ms:List (List Int)} {S:Nat→Bool} (h:∀i,S i=false):¬ChgM F Z N l ms S:=fun⟨i,_,_,b,_⟩=>by rw [h i]at b;cases b
end Go.Mc
end
section
namespace Go.Proofs.YtaomhdljcdadaaaGreat
open Go.Sx Go.Pk Go.Mc Go.Np
set_option maxRecDepth 4000
set_option maxHeartbeats 2000000
theorem aP_So3 {A B K:Prop} (k:K) (a:A:=by(simp only [zA,zT,zD,zC,zN,ints_len,zR,Go.Cv.vals_len];omega)) (b:B:=by(simp only [zA,zT,zD,zC,zN,ints_len,zR,Go.Cv.vals_len];omega)):(A∧B)∧K:=⟨⟨a,b⟩,k⟩
theorem z1_So3 {G H:Prop} (k:H) (h:H→G:=by first|exact fun r=>aS r|exact fun r=>aG r|exact fun r=>aD r|exact fun r=>aH r|exact fun r=>aP_So3 r|exact fun r=>aI r|exact fun r=>aJ r):G:=h k
theorem enough_ok (q:List Pk) (h60:q.length≤60) (hqs:∀i,i<q.length→1≤(q.getD i pk0).s ∧(q.getD i pk0).s ≤1500) (hqt:∀i,i<q.length→0≤(q.getD i pk0).t ∧(q.getD i pk0).t ≤4294967296):Ctr Tryz.prog 117 [.psl 3 (pks q)] [] (fun r o=>o=[]∧r=i64 (enN q)):=by
 refine fn_intro (E:=env 0) tys_ok rfl rfl rfl Tryz.func117 (by kernel_rfl) rfl (by kernel_rfl) ?_
 have hpl:=pks_len q
 have hT:=fun m (hm:m≤q.length)=>enT_le (p:=q) (B:=4294967297) (m:=m) (by omega) fun i hi=>by have:=hqt i (by omega);omega
 have hS:=fun m (hm:m≤q.length)=>enS_le (p:=q) (m:=m) fun i hi=>hqs i (by omega)
 have hT1:=fun m=>enT_one (p:=q) (m:=m)
 (repeat' (conv=>whnf);first|(refine aC (fun _=>?_) (fun _=>?_)<;>try (exfalso;omega))|refine z1_So3 ?_|fail);all_goals try (conv=>whnf)
 refine LoopOb.mk (Y:=Nat) (st:=fun i=>⟨[(10,i64 i),(9,i64 (pks q).length),(8, .psl 3 (pks q)),(3,i64 (enT q i)),(0, .psl 3 (pks q))],[]⟩)
  (inv:=fun i=>i≤q.length) (fun i=>q.length-i) 0 [] (by omega) (by(exact aL)) ?_
 rintro i hi
 have h1:=hT i hi
 have h2:=hT1 i
 by_cases hil:i<q.length
 ·have hg:=pks_get hil
  have hb:=hqt i hil
  have hnx:enT q (i+1)=max (enT q i) ((q.getD i pk0).t +1):=rfl
  generalize q.getD i pk0=x at*
  generalize enT q i=e at*
  (repeat' (conv=>whnf);first|refine⟨i,_,rfl,hg,?_⟩|(refine aC (fun _=>?_) (fun _=>?_)<;>try (exfalso;omega))|refine z1_So3 ?_|fail);all_goals try (conv=>whnf)
  exact⟨i+1,[],by omega,by omega,by rw [hnx];(exact aL)⟩
 ·obtain rfl:i=q.length:=by omega
  (repeat' (conv=>whnf);first|(refine aC (fun _=>?_) (fun _=>?_)<;>try (exfalso;omega))|refine z1_So3 ?_|fail);all_goals try (conv=>whnf)
  refine LoopOb.mk (Y:=Nat) (st:=fun i=>⟨[(22,i64 i),(21,i64 (pks q).length),(20, .psl 3 (pks q)),(3,i64 (enT q q.length+enS q i))],[]⟩)
   (inv:=fun i=>i≤q.length) (fun i=>q.length-i) 0 [] (by omega) (by simp only [enS,Int.add_zero];(exact aL)) ?_
  rintro i hi
  have h3:=hS i hi
  by_cases hil:i<q.length
  ·have hg:=pks_get hil
   have hb:=hqs i hil
   have hnx:enT q q.length+enS q (i+1)=enT q q.length+enS q i+((q.getD i pk0).s +41):=by simp only [enS];omega
   generalize q.getD i pk0=x at*
   generalize enT q q.length=e at*
   generalize enS q i=e2 at*
   (repeat' (conv=>whnf);first|refine⟨i,_,rfl,hg,?_⟩|(refine aC (fun _=>?_) (fun _=>?_)<;>try (exfalso;omega))|refine z1_So3 ?_|fail);all_goals try (conv=>whnf)
   exact⟨i+1,[],by omega,by omega,by rw [hnx];(exact aL)⟩
  ·obtain rfl:i=q.length:=by omega
   (repeat' (conv=>whnf);first|(refine aC (fun _=>?_) (fun _=>?_)<;>try (exfalso;omega))|refine z1_So3 ?_|fail);all_goals try (conv=>whnf)
   exact⟨rfl,rfl⟩
theorem chL_idle {l:Ln} {T:Nat} {p:List Pk} (h:FitP p l.c.toNat l.n.toNat T) (h1:1≤l.k) (h5:l.k≤5) (hr:l.k=3→l.w.length=l.n.toNat∧inR l.w 1 20) (hs:l.k=5→l.s≠[]∧l.s.length≤40):∃L,L≤40∧Idle (chL l) p l.c.toNat L:=by
 by_cases k1:l.k=1
 ·exact⟨1,by omega,by rw [show chL l=fifoC from if_pos k1];exact fifo_idle _ _⟩
 by_cases k2:l.k=2
 ·exact⟨1,by omega,by rw [show chL l=prioC l.n.toNat by unfold chL;rw [if_neg k1,if_pos k2]];exact prio_idle _ _ _⟩
 by_cases k3:l.k=3
 ·exact⟨1,by omega,by rw [show chL l=robinC l.w by unfold chL;rw [if_neg k1,if_neg k2,if_pos k3]];exact robin_idle _ _ _⟩
 by_cases k4:l.k=4
 ·exact⟨1,by omega,by rw [show chL l=defC l.w by unfold chL;rw [if_neg k1,if_neg k2,if_neg k3,if_pos k4]];exact def_idle _ _ _⟩
 obtain⟨s1,s2⟩:=hs (by omega)
 refine⟨l.s.length,s2,?_⟩
 rw [show chL l=slotC l.c.toNat l.s by unfold chL;rw [if_neg k1,if_neg k2,if_neg k3,if_neg k4]]
 exact slot_idle _ _ (List.length_pos_iff.2 s1) _
theorem set_same {l:List Int} {h:Nat} {v:Int} (hh:h<l.length) (e:l.getD h (-1)=v):l.set h v=l:=by
 apply List.ext_getElem?;intro j
 rw [List.getElem?_set]
 by_cases k:h=j
 ·subst k
  rw [if_pos rfl,if_pos hh,←e,List.getD_eq_getElem?_getD,List.getElem?_eq_getElem hh];rfl
 ·rw [if_neg k]
theorem setR_same {ms:List (List Int)} {i:Nat} (hi:i<ms.length):ms.set i (ms.getD i [])=ms:=by
 apply List.ext_getElem?;intro j
 rw [List.getElem?_set]
 by_cases k:i=j
 ·subst k
  rw [if_pos rfl,if_pos hi,List.getD_eq_getElem?_getD,List.getElem?_eq_getElem hi];rfl
 ·rw [if_neg k]
abbrev ntO (n:Nt) (p:List Pk) (l:Int) (ms:List (List Int)) (c:Bool):List Chunk:=[nbx n, .box [.psl 3 (pks p)], .box [i64 l], .box [.vec 4], .mat 1 (ms.map ints), .box [.bl c]]
theorem z2_So3 {G H:Prop} (k:H) (h:H→G:=by first|exact fun r=>aS r|exact fun r=>aG r|exact fun r=>aD r|exact fun r=>aH r|exact fun r=>aP_So3 r|exact fun r=>aI r|exact fun r=>aJ r|exact fun r=>aW (.qs [0,1,2,3,4,5,6] (.l 7 [] (.qs [8] .nil) .no)) r):G:=h k
theorem note_ok (n:Nt) (hn:NL n) (p:List Pk) (hp:p.length≤60) (l:Int) (ms:List (List Int)) (c:Bool) (i h:Nat) (v:Int) (hi:i<p.length) (him:i<ms.length) (hh:hop n (p.getD i pk0).f l=h) (hr:h<(ms.getD i []).length) (hm:ms.length≤60) (hr4:(ms.getD i []).length ≤4):
  Ctr Tryz.prog 118 [i64 i,i64 v, .ptr 0 0, .ptr 1 0, .ptr 2 0, .ptr 3 0, .ptr 5 0] (ntO n p l ms c) (fun r o=>o=ntO n p l (ms.set i ((ms.getD i []).set h v)) (c||decide (dR ms i h≠v))∧r= .tup []):=by
 refine fn_intro (E:=env 6) tys_ok rfl rfl rfl Tryz.func118 (by kernel_rfl) rfl (by kernel_rfl) ?_
 have hpl:=pks_len p
 have hg:=pks_get hi
 have hml:(ms.map ints).length =ms.length:=by simp
 have hgr:(ms.map ints)[i]? =some (ints (ms.getD i [])):=by simp [him]
 have hdR:dR ms i h=(ms.getD i []).getD h (-1):=rfl
 rw [hdR]
 have hsm:∀r',(ms.map ints).set i (ints r')=(ms.set i r').map ints:=fun r'=>by simp [List.map_set]
 have hsame:=setR_same him
 generalize p.getD i pk0=x at*
 generalize ms.getD i []=row at*
 have hil:=ints_len row
 have hgv:=ints_get (l:=row) (j:=h) hr
 have hdf:=getD_dflt (l:=row) (j:=h) hr (a:= -1) (b:=0)
 (repeat' (conv=>whnf);first|refine⟨i,_,rfl,hg,?_⟩|(refine aC (fun _=>?_) (fun _=>?_)<;>try (exfalso;omega))|refine z2_So3 ?_|(refine aK [] (Hop_ok n hn x.f l) ?_)|refine⟨i,rfl,by omega,?_⟩|refine⟨by omega,?_⟩|fail);all_goals try (conv=>whnf)
 rw [hh]
 by_cases hc:row.getD h (-1)=v
 ·have e:(c||decide (row.getD h (-1)≠v))=c:=by rw [decide_eq_false (fun k=>k hc),Bool.or_false]
  rw [e,set_same hr hc,hsame]
  rw [hdf]at hc
  generalize row.getD h 0=u at*
  (repeat' (conv=>whnf);first|(refine aC (fun _=>?_) (fun _=>?_)<;>try (exfalso;omega))|refine z2_So3 ?_|refine⟨_,rfl,hgr,by omega,?_⟩|refine⟨_,_,hgr,hgv,?_⟩|fail);all_goals try (conv=>whnf)
  exact⟨rfl,rfl⟩
 ·have e:(c||decide (row.getD h (-1)≠v))=true:=by rw [decide_eq_true hc,Bool.or_true]
  rw [e]
  unfold ntO
  rw [←hsm,show ints (row.set h v)=(ints row).set h [i64 v]by simp [ints,List.map_set]]
  rw [hdf]at hc
  generalize row.getD h 0=u at*
  (repeat' (conv=>whnf);first|(refine aC (fun _=>?_) (fun _=>?_)<;>try (exfalso;omega))|refine z2_So3 ?_|refine⟨_,rfl,hgr,by omega,?_⟩|refine⟨_,_,hgr,hgv,?_⟩|refine⟨i,rfl,?_⟩|refine⟨by omega,?_⟩|refine⟨_,rfl,hgr,by omega,?_⟩|fail);all_goals try (conv=>whnf)
  exact⟨rfl,rfl⟩
end Go.Proofs.YtaomhdljcdadaaaGreat
end
