/- Lemmas of this seat. Conditions: as stated. -/
import Derived.Test.YtaomhdljcdadaaaGreatQrs
import Derived.Test.YtaomhdljcdadaaaGreatS8
import Derived.Test.YtaomhdljcdadaaaGreatMn
import Derived.Test.YtaomhdljcdadaaaGreatS2
import Derived.Test.YtaomhdljcdadaaaGreatSxW
set_option linter.unusedVariables false
set_option linter.unusedSimpArgs false
set_option maxHeartbeats 2000000
set_option maxRecDepth 4000
namespace Go.Proofs.YtaomhdljcdadaaaGreat
section
open Go.Sx Go.Pk Go.Mc Go.Np
theorem chL_idle1 {l:Ln} {T:Nat} {p:List Pk} (h:FitP p l.c.toNat l.n.toNat T) (h1:1≤l.k) (h5:l.k≤5) (hr:l.k=3→l.w.length=l.n.toNat∧inR l.w 1 20) (hs:l.k=5→l.s≠[]∧l.s.length≤40):∃L,L≤40∧(l.k≠5→L=1)∧Idle (chL l) p l.c.toNat L:=by
 by_cases k1:l.k=1
 ·exact⟨1,by omega,fun _=>rfl,by rw [show chL l=fifoC from if_pos k1];exact fifo_idle _ _⟩
 by_cases k2:l.k=2
 ·exact⟨1,by omega,fun _=>rfl,by rw [show chL l=prioC l.n.toNat by unfold chL;rw [if_neg k1,if_pos k2]];exact prio_idle _ _ _⟩
 by_cases k3:l.k=3
 ·exact⟨1,by omega,fun _=>rfl,by rw [show chL l=robinC l.w by unfold chL;rw [if_neg k1,if_neg k2,if_pos k3]];exact robin_idle _ _ _⟩
 by_cases k4:l.k=4
 ·exact⟨1,by omega,fun _=>rfl,by rw [show chL l=defC l.w by unfold chL;rw [if_neg k1,if_neg k2,if_neg k3,if_pos k4]];exact def_idle _ _ _⟩
 obtain⟨s1,s2⟩:=hs (by omega)
 refine⟨l.s.length,s2,fun h=>by omega,?_⟩
 rw [show chL l=slotC l.c.toNat l.s by unfold chL;rw [if_neg k1,if_neg k2,if_neg k3,if_neg k4]]
 exact slot_idle _ _ (List.length_pos_iff.2 s1) _
def enD (l:Ln) (p:List Pk):Int:=laN p p.length+(byN p p.length:Nat)+1+if l.k=5 then 41*((p.length:Int)+1)else 0
theorem send_run {l:Ln} (he:lnErr l=0) {p:List Pk} {N:Nat} (hp:PL p) (hcl:∀i,i<p.length→0≤cl p i∧cl p i<l.n) (hN:N≤2000):(run (chL l) p l.c.toNat (min (N:Int) (enD l p)).toNat).dn =(run (chL l) p l.c.toNat N).dn :=by
 obtain⟨h,hc,hn,k1,k5,hr,hd,hs⟩:=lRun_fit he hp hcl hN
 obtain⟨L,hL,hL1,hI⟩:=chL_idle1 h k1 k5 hr hs
 obtain⟨b1,b2,b3⟩:=laN_bd (p:=p) (B:=2000) (by omega) (m:=p.length) fun i hi=>(hp.t i hi).2
 have hbt:byN p p.length=byt p:=rfl
 have hen:(laN p p.length).toNat +byt p+(L-1)*p.length≤(enD l p).toNat :=by
  have h3:(L-1)*p.length≤39*p.length:=Nat.mul_le_mul_right _ (by omega)
  unfold enD
  rw [hbt]
  split
  ·omega
  ·rw [hL1 (by assumption)];omega
 by_cases hle:(N:Int)≤enD l p
 ·rw [show(min (N:Int) (enD l p)).toNat =N by omega]
 ·rw [show(min (N:Int) (enD l p)).toNat =(enD l p).toNat by omega]
  have hpos:Pos p:=fun i hi=>by have:=(hp.s i hi).1;unfold sz;omega
  refine run_enough hp.a hpos hI h.c1 (last:=(laN p p.length).toNat) (fun i hi=>?_) hen (by omega)
  have:=b3 i hi
  unfold tm;omega
theorem z1_Qd {G H:Prop} (k:H) (h:H→G:=by first|exact fun r=>aS r|exact fun r=>aG r|exact fun r=>aD r|exact fun r=>aH r|exact fun r=>aP_T1 r|exact fun r=>aI r|exact fun r=>aJ r|exact fun r=>aW (.qs [0,1,2,3,4,5,6,7,8,9,10,11,12,13,14,15] .nil) r):G:=h k
theorem RSnd_ok (l:Ln) (hl:LL l) (he:lnErr l=0) (p:List Pk) (N:Nat) (hp:PL p) (hcl:∀i,i<p.length→0≤cl p i∧cl p i<l.n) (hN:N≤2000):Ctr Tryz.prog 61 [lv l, .psl 3 (pks p),i64 N] [] (fun r o=>o=[]∧RunR p.length (run (chL l) p l.c.toNat N).dn r):=by
 refine fI 0 Tryz.func61 ?_
 have hpl:=pks_len p
 have h60:=hp.l
 have hA:=fun m (hm:m≤p.length)=>laN_bd (p:=p) (B:=2000) (by omega) (m:=m) fun i hi=>(hp.t i (by omega)).2
 have hB:=fun m (hm:m≤p.length)=>byN_bd (p:=p) (B:=1500) (m:=m) fun i hi=>(hp.s i (by omega)).2
 (repeat' (conv=>whnf);first|refine aC ?_ ?_<;>intro<;>try omega|refine z1_Qd ?_|fail);all_goals try (conv=>whnf)
 refine LoopOb.mk (Y:=Nat) (st:=fun i=>⟨[(10,i64 i),(8,i64 (laN p i)),(9,i64 (byN p i:Nat)),(6, .ptr 1 0),(3, .ptr 0 0),(1, .psl 3 (pks p)),(2,i64 N)],[.box [i64 l.k,i64 l.c,i64 l.n, .psl 1 (ints l.w), .psl 1 (ints l.s)], .box [.nil, .nil]]⟩)
  (inv:=fun i=>i≤p.length) (fun i=>p.length-i) 0 [0,1] (by omega) (by(exact aL)) ?_
 rintro i hi
 have h1:=hA i hi
 have h2:=hB i hi
 by_cases hil:i<p.length
 ·have hg:=pks_get hil
  have h3:=hp.t i hil
  have h4:=hp.s i hil
  have e1:laN p (i+1)=max (laN p i) (p.getD i pk0).t :=rfl
  have e2:((byN p (i+1):Nat):Int)=(byN p i:Nat)+(p.getD i pk0).s :=by
   have:byN p (i+1)=byN p i+(p.getD i pk0).s.toNat :=rfl
   omega
  generalize p.getD i pk0=x at*
  generalize laN p i=la at*
  generalize byN p i=by' at*
  (repeat' (conv=>whnf);first|refine⟨i,_,rfl,hg,?_⟩|refine aC ?_ ?_<;>intro<;>try omega|refine z1_Qd ?_|fail);all_goals try (conv=>whnf)
  exact⟨i+1,[0,1],by omega,by omega,by rw [e1,e2];(exact aL)⟩
 ·obtain rfl:i=p.length:=by omega
  have cD:=DRun_ok l hl he p (min (N:Int) (enD l p)).toNat hp hcl (by omega)
  rw [send_run he hp hcl hN]at cD
  have hen:0≤enD l p:=by unfold enD;split<;>omega
  have hcs:(l.k=5∧enD l p=laN p p.length+(byN p p.length:Nat)+1+41*((p.length:Int)+1))∨(l.k≠5∧enD l p=laN p p.length+(byN p p.length:Nat)+1):=by
   unfold enD
   by_cases h5:l.k=5
   ·exact .inl ⟨h5,by rw [if_pos h5]⟩
   ·exact .inr ⟨h5,by rw [if_neg h5];omega⟩
  (repeat' (conv=>whnf);first|refine aC ?_ ?_<;>intro<;>try omega|refine z1_Qd ?_|(refine CallOb.mk [] cD rfl ⟨Imp.refl _,Imp.refl _,Imp.num (by omega),trivial⟩ rfl rfl ?_;rintro _ _ ⟨rfl,x,⟨ms,hms,rfl⟩,rfl⟩)|fail);all_goals try (conv=>whnf)
  all_goals exact⟨rfl,_,⟨ms,hms,rfl⟩,rfl⟩
end
end Go.Proofs.YtaomhdljcdadaaaGreat
section
namespace Go.Mc
open Go.Pk
variable {F:Tf} {Z:Li} {N:Nat}
def CT (F:Tf) (Z:Li) (N T:Nat) (D:Tp):Prop:=∀i h,i<F.np→h<(F.rt i).length →D i h=cut T (tr F Z N i h)
theorem CT.zero {D:Tp} (h:∀i k,i<F.np→k<(F.rt i).length →D i k= -1):CT F Z N 0 D:=fun i k hi hk=>by
 rw [h i k hi hk];unfold cut;rw [if_neg (by omega)]
theorem CT.av (hR:Rts F) {T:Nat} {D:Tp} (h:CT F Z N T D) {i k:Nat} (hi:i<F.np) (hk:k<(F.rt i).length):Av (T+1) (pas F Z N D (lin F i k) i) (tr F Z N i k):=tr_step hR Z (ag_cut h) hi hk
theorem CT.mon (hR:Rts F) {T:Nat} {D:Tp} (h:CT F Z N T D):Mon F D:=fun i k hi hk h0=>by
 rw [h i (k+1) hi hk]at h0⊢
 rw [h i k hi (by omega)]
 obtain⟨c1,c2,c3⟩:=cut_nonneg h0
 obtain⟨m1,m2⟩:=tr_mon hR Z N i k hi hk c2
 have e:cut T (tr F Z N i k)=tr F Z N i k:=by unfold cut;rw [if_pos ⟨m1,by omega⟩]
 rw [c1,e];exact⟨m1,m2⟩
theorem CT.ge (hR:Rts F) {T:Nat} {D:Tp} (h:CT F Z N T D) {i k:Nat} (hi:i<F.np) (hk:k<(F.rt i).length) (h0:0≤pas F Z N D (lin F i k) i) (hD:D i k<0):(T:Int)≤pas F Z N D (lin F i k) i:=by
 refine Classical.byContradiction fun hn=>?_
 have e:=h.av hR hi hk (.inl ⟨h0,by omega⟩)
 rw [h i k hi hk,←e]at hD
 unfold cut at hD
 rw [if_pos ⟨h0,by omega⟩]at hD
 omega
theorem CT.up1 (hR:Rts F) {T:Nat} {D:Tp} (h:CT F Z N T D) (hn:∀i k,i<F.np→k<(F.rt i).length →D i k<0→pas F Z N D (lin F i k) i≠T):CT F Z N (T+1) D:=fun i k hi hk=>by
 have h1:=h i k hi hk
 by_cases e:tr F Z N i k=T
 ·have h2:=h.av hR hi hk (.inr ⟨by omega,by omega⟩)
  have h3:D i k= -1:=by rw [h1];unfold cut;rw [if_neg (by omega)]
  exact absurd (h2.trans e) (hn i k hi hk (by omega))
 ·rw [h1]
  unfold cut
  by_cases c:0≤tr F Z N i k∧tr F Z N i k<T
  ·rw [if_pos c,if_pos ⟨c.1,by omega⟩]
  ·rw [if_neg c,if_neg (by omega)]
theorem CT.up (hR:Rts F) {D:Tp} {L:Nat} (hL:∀i k,i<F.np→k<(F.rt i).length →D i k<0→0≤pas F Z N D (lin F i k) i→(L:Int)≤pas F Z N D (lin F i k) i):∀{j T:Nat},CT F Z N T D→T+j=L→CT F Z N L D
 |0,T,h,e=>by rw [←e];exact h
 |j+1,T,h,e=>CT.up hR hL (j:=j) (h.up1 hR fun i k hi hk hd hp=>by have:=hL i k hi hk hd (by omega);omega) (by omega)
theorem CT.step (hR:Rts F) {D D':Tp} {L:Nat} (h:CT F Z N L D) (hD:∀i k,i<F.np→k<(F.rt i).length →D' i k=if pas F Z N D (lin F i k) i=L∧D i k<0 then(L:Int)else D i k):CT F Z N (L+1) D':=fun i k hi hk=>by
 have h1:=h i k hi hk
 have h2:=h.av hR hi hk
 rw [hD i k hi hk]
 by_cases e:tr F Z N i k=L
 ·have h3:=h2 (.inr ⟨by omega,by omega⟩)
  have h4:D i k= -1:=by rw [h1];unfold cut;rw [if_neg (by omega)]
  rw [if_pos ⟨h3.trans e,by omega⟩]
  unfold cut;rw [if_pos ⟨by omega,by omega⟩];exact e.symm
 ·rw [if_neg (fun c=>e ((h2 (.inl ⟨by omega,by omega⟩)).symm.trans c.1)),h1]
  unfold cut
  by_cases c:0≤tr F Z N i k∧tr F Z N i k<L
  ·rw [if_pos c,if_pos ⟨c.1,by omega⟩]
  ·rw [if_neg c,if_neg (by omega)]
theorem CT.lt (hR:Rts F) {D:Tp} {T:Nat} (h:CT F Z N T D) (hT:N≤T):∀i k,i<F.np→k<(F.rt i).length →D i k=tr F Z N i k:=fun i k hi hk=>by
 rw [h i k hi hk]
 rcases tr_bd hR Z N hi hk with e|⟨e1,e2,_⟩
 ·rw [e];unfold cut;rw [if_neg (by omega)]
 ·unfold cut;rw [if_pos ⟨e1,by omega⟩]
theorem CT.fin (hR:Rts F) {D:Tp} {T:Nat} (h:CT F Z N T D) (hn:∀i k,i<F.np→k<(F.rt i).length →D i k<0→pas F Z N D (lin F i k) i<0):∀i k,i<F.np→k<(F.rt i).length →D i k=tr F Z N i k:=
 (CT.up hR (L:=T+N) (fun i k hi hk hd h0=>by have:=hn i k hi hk hd;omega) h (j:=N) rfl).lt hR (by omega)
theorem arr_mon {D:Tp} (hM:Mon F D) {i h:Nat} (hi:i<F.np) (hh:h<(F.rt i).length):arr F D i h=if h=0 then some (F.t i)else if 0≤D i (h-1)then some (D i (h-1)+1)else none:=by
 unfold arr
 by_cases h0:h=0
 ·rw [if_pos h0,if_pos h0]
 ·rw [if_neg h0,if_neg h0]
  by_cases hd:0≤D i (h-1)
  ·rw [if_pos hd,if_pos fun j hj=>?_]
   by_cases e:j=h-1
   ·rw [e];exact hd
   ·exact(hM.lt hi (h:=h-1) (by omega) hd j (by omega)).1
  ·rw [if_neg hd,if_neg fun c=>hd (c (h-1) (by omega))]
theorem qu_keep {D D':Tp} (hM:Mon F D) (hM':Mon F D') {l:Nat} (h:∀i k,i<F.np→k+1<(F.rt i).length →lin F i (k+1)=l→D' i k=D i k):qu F D' l=qu F D l:=by
 refine ord_uniq (qu_ok F _ l).o (qu_ok F _ l).o fun x=>?_
 have key:∀i k,i<F.np→hp F l i=some k→arr F D' i k=arr F D i k:=fun i k hi hk=>by
  obtain⟨h1,h2⟩:=hp_some hk
  rw [arr_mon hM' hi h1,arr_mon hM hi h1]
  by_cases h0:k=0
  ·rw [if_pos h0,if_pos h0]
  ·rw [if_neg h0,if_neg h0,h i (k-1) hi (by omega) (by rw [show k-1+1=k by omega];exact h2)]
 rw [(qu_ok F _ l).m,(qu_ok F _ l).m]
 constructor
 ·rintro⟨a,⟨k,b,c⟩,d⟩;exact⟨a,⟨k,b,by rw [←key x.i k a b];exact c⟩,d⟩
 ·rintro⟨a,⟨k,b,c⟩,d⟩;exact⟨a,⟨k,b,by rw [key x.i k a b];exact c⟩,d⟩
theorem ite_of {α:Type} {p q:Prop} {i1:Decidable p} {i2:Decidable q} (h:p↔q) {a b:α}: @ite α p i1 a b= @ite α q i2 a b:=by
 by_cases c:p
 ·rw [if_pos c,if_pos (h.1 c)]
 ·rw [if_neg c,if_neg fun k=>c (h.2 k)]
open Classical in
noncomputable def rdM (F:Tf) (Z:Li) (N:Nat) (ms:List (List Int)) (L:Int) (S:Nat→Nat→Prop):List (List Int):=
 ms.mapIdx fun i r=>r.mapIdx fun h v=>if S (lin F i h) i∧pas F Z N (dR ms) (lin F i h) i=L∧v<0 then L else v
variable {ms:List (List Int)} {L:Int} {S S':Nat→Nat→Prop}
theorem rdM_len:(rdM F Z N ms L S).length =ms.length:=by simp [rdM]
theorem rdM_rlen {i:Nat}:((rdM F Z N ms L S).getD i []).length =(ms.getD i []).length :=by
 unfold rdM
 rw [List.getD_eq_getElem?_getD,List.getElem?_mapIdx,List.getD_eq_getElem?_getD]
 cases ms[i]? with
 |none=>rfl
 |some r=>simp
open Classical in
theorem rdM_at {i h:Nat} (hh:h<(ms.getD i []).length):dR (rdM F Z N ms L S) i h=if S (lin F i h) i∧pas F Z N (dR ms) (lin F i h) i=L∧dR ms i h<0 then L else dR ms i h:=by
 have hi:i<ms.length:=Classical.byContradiction fun hn=>by
  rw [List.getD_eq_getElem?_getD,List.getElem?_eq_none (by omega)]at hh;simp at hh
 unfold dR rdM
 rw [List.getD_eq_getElem?_getD (l:=List.mapIdx _ _),List.getElem?_mapIdx,List.getD_eq_getElem?_getD (l:=ms),List.getElem?_eq_getElem hi]
 rw [List.getD_eq_getElem?_getD (l:=ms),List.getElem?_eq_getElem hi]at hh
 simp only [Option.map_some,Option.getD_some]at hh⊢
 rw [List.getD_eq_getElem?_getD,List.getElem?_mapIdx,List.getD_eq_getElem?_getD,List.getElem?_eq_getElem hh]
 rfl
theorem rdM_none (h:∀l i,¬S l i):rdM F Z N ms L S=ms:=
 rows_ext rdM_len (fun _=>rdM_rlen) fun i k hi hk=>by
  rw [rdM_len]at hi
  rw [rdM_rlen]at hk
  rw [rdM_at hk,if_neg fun c=>h _ _ c.1]
theorem rdM_ext (h:∀l i,S l i↔S' l i):rdM F Z N ms L S=rdM F Z N ms L S':=by
 have:S=S':=funext fun l=>funext fun i=>propext (h l i)
 rw [this]
theorem rdM_sh (hS:ShM F N ms) (hL: -1≤L∧L<N):ShM F N (rdM F Z N ms L S):=
 ⟨by rw [rdM_len,hS.l],fun i hi=>by rw [rdM_rlen,hS.r i hi],fun i k hi hk=>by
  rw [rdM_at (by rw [hS.r i hi];exact hk)]
  split
  ·exact hL
  ·exact hS.b i k hi hk⟩
theorem rdM_put (hR:Rts F) (hS:ShM F N ms) {l i h:Nat} (hi:i<F.np) (hh:hp F l i=some h) (hS':∀l' i',S' l' i'↔S l' i'∨(l'=l∧i'=i)) (hn:¬S l i) (hp:pas F Z N (dR ms) l i=L) (hd:dR (rdM F Z N ms L S) i h<0):
  rdM F Z N ms L S'=(rdM F Z N ms L S).set i (((rdM F Z N ms L S).getD i []).set h L):=by
 obtain⟨h1,h2⟩:=hp_some hh
 have hrl:=hS.r i hi
 have hdm:dR ms i h<0:=by
  rw [rdM_at (by rw [hrl];exact h1),if_neg (by rw [h2];exact fun c=>hn c.1)]at hd;exact hd
 refine rows_ext (by rw [rdM_len,List.length_set,rdM_len]) (fun j=>?_) fun j k hj hk=>?_
 ·rw [rdM_rlen]
  by_cases e:j=i
  ·subst e
   rw [List.getD_eq_getElem?_getD (l:=List.set _ _ _),List.getElem?_set_self (by rw [rdM_len,hS.l];exact hi),Option.getD_some,List.length_set,rdM_rlen]
  ·rw [List.getD_eq_getElem?_getD (l:=List.set _ _ _),List.getElem?_set_ne (fun c=>e c.symm),←List.getD_eq_getElem?_getD,rdM_rlen]
 ·rw [rdM_len,hS.l]at hj
  rw [rdM_rlen]at hk
  rw [rdM_at hk]
  by_cases e:j=i
  ·subst e
   unfold dR
   rw [List.getD_eq_getElem?_getD (l:=List.set _ _ _),List.getElem?_set_self (by rw [rdM_len,hS.l];exact hi),Option.getD_some]
   by_cases ek:k=h
   ·subst ek
    rw [List.getD_eq_getElem?_getD (l:=List.set _ _ _),List.getElem?_set_self (by rw [rdM_rlen];exact hk),Option.getD_some]
    rw [h2,hS']
    exact if_pos ⟨.inr ⟨rfl,rfl⟩,hp,hdm⟩
   ·rw [List.getD_eq_getElem?_getD (l:=List.set _ _ _),List.getElem?_set_ne (fun c=>ek c.symm),←List.getD_eq_getElem?_getD]
    have:=rdM_at (F:=F) (Z:=Z) (N:=N) (L:=L) (S:=S) hk
    unfold dR at this
    rw [this]
    have hne:lin F j k≠l:=fun c=>ek (by
     have h3:=hp_lin hR hi (h:=k) (by rw [←hrl];exact hk)
     rw [c,hh]at h3
     exact(Option.some.inj h3).symm)
    exact ite_of (by rw [hS'];exact⟨fun c=>⟨c.1.resolve_right fun e=>hne e.1,c.2⟩,fun c=>⟨.inl c.1,c.2⟩⟩)
  ·unfold dR
   rw [List.getD_eq_getElem?_getD (l:=List.set _ _ _),List.getElem?_set_ne (fun c=>e c.symm),←List.getD_eq_getElem?_getD]
   have:=rdM_at (F:=F) (Z:=Z) (N:=N) (L:=L) (S:=S) hk
   unfold dR at this
   rw [this]
   exact ite_of (by rw [hS'];exact⟨fun c=>⟨c.1.resolve_right fun e2=>e e2.2,c.2⟩,fun c=>⟨.inl c.1,c.2⟩⟩)
theorem rdM_skip (hR:Rts F) (hS:ShM F N ms) {l i h:Nat} (hi:i<F.np) (hh:hp F l i=some h) (hS':∀l' i',S' l' i'↔S l' i'∨(l'=l∧i'=i)) (hn:¬S l i) (hc:¬(pas F Z N (dR ms) l i=L∧dR (rdM F Z N ms L S) i h<0)):
  rdM F Z N ms L S'=rdM F Z N ms L S:=by
 obtain⟨h1,h2⟩:=hp_some hh
 have hrl:=hS.r i hi
 rw [rdM_at (by rw [hrl];exact h1),if_neg (by rw [h2];exact fun c=>hn c.1)]at hc
 refine rows_ext (by rw [rdM_len,rdM_len]) (fun j=>by rw [rdM_rlen,rdM_rlen]) fun j k hj hk=>?_
 rw [rdM_len,hS.l]at hj
 rw [rdM_rlen]at hk
 rw [rdM_at hk,rdM_at hk]
 by_cases e:lin F j k=l∧j=i
 ·obtain⟨e1,e2⟩:=e
  subst e2
  have h3:=hp_lin hR hi (h:=k) (by rw [←hrl];exact hk)
  rw [e1,hh]at h3
  have ek:=Option.some.inj h3
  subst ek
  rw [e1,if_neg (fun c=>hc c.2),if_neg (fun c=>hc c.2)]
 ·exact ite_of (by rw [hS'];exact⟨fun c=>⟨c.1.resolve_right e,c.2⟩,fun c=>⟨.inl c.1,c.2⟩⟩)
end Go.Mc
end
namespace Go.Proofs.YtaomhdljcdadaaaGreat
section
open Go.Sx Go.Pk Go.Mc Go.Np
theorem RQuM_ok (n:Nt) (hn:NL n) (p:List Pk) (hp:p.length≤60) (hR:RtP n p) (ms:List (List Int)) (hm:MsL ms) (l:Int):Ctr Tryz.prog 20 [ntv n, .psl 3 (pks p), .agg [.vec 0],i64 l] [.mat 1 (ms.map ints)]
  (fun r o=>o=[.mat 1 (ms.map ints), .vec 3 (pks (pkq (toF n p) (quL n p (dR ms) l p.length))), .vec 1 (ints (ixs (quL n p (dR ms) l p.length)))]∧r= .tup [.vec 1, .vec 2]):=by
 refine Ctr.mono (Ctr.borrowM (esz:=1) (ms:=ms.map ints) (RQu_ok n hn p hp hR ms hm l) rfl ?_) ?_
 ·rintro r o ⟨rfl,rfl⟩
  refine⟨rfl,fun c hc=>?_⟩
  simp only [List.mem_cons,List.not_mem_nil,or_false]at hc
  rcases hc with rfl|rfl
  ·refine⟨_,_,rfl,fun r hr s hs=>?_⟩
   obtain⟨x,_,rfl⟩:=List.mem_map.1 hr
   simp only [List.mem_cons,List.not_mem_nil,or_false]at hs
   rcases hs with rfl|rfl|rfl<;>rfl
  ·refine⟨_,_,rfl,fun r hr s hs=>?_⟩
   obtain⟨x,_,rfl⟩:=List.mem_map.1 hr
   simp only [List.mem_cons,List.not_mem_nil,or_false]at hs
   rcases hs with rfl;rfl
 ·rintro r o ⟨r1,o1,⟨rfl,rfl⟩,rfl,rfl⟩
  exact⟨rfl,rfl⟩
def emR (n:Nt) (p:List Pk) (i:Nat):List (List Int):=(List.range i).map fun j=>List.replicate (pfl n (p.getD j pk0)).rt.length (-1)
theorem emR_len (n:Nt) (p:List Pk) (i:Nat):(emR n p i).length =i:=by simp [emR]
theorem emR_app (n:Nt) (p:List Pk) (i:Nat):mtz (emR n p (i+1))=mtz (emR n p i)++[ints (List.replicate (pfl n (p.getD i pk0)).rt.length (-1))]:=by
 simp [emR,mtz,List.range_succ]
theorem emR_at {n:Nt} {p:List Pk} {i:Nat} (h:i<p.length):(emR n p p.length).getD i []=List.replicate (pfl n (p.getD i pk0)).rt.length (-1):=by
 simp [emR,List.getD_eq_getElem?_getD,h]
theorem emR_sh {n:Nt} {p:List Pk} {N:Nat}:ShM (toF n p) N (emR n p p.length)∧∀i k,i<p.length→k<((toF n p).rt i).length →dR (emR n p p.length) i k= -1:=by
 have hl:∀i,((toF n p).rt i).length =(pfl n (p.getD i pk0)).rt.length :=fun i=>List.length_map _
 have hd:∀i k,i<p.length→k<((toF n p).rt i).length →dR (emR n p p.length) i k= -1:=fun i k hi hk=>by
  rw [hl]at hk
  unfold dR
  rw [emR_at hi,List.getD_eq_getElem?_getD,List.getElem?_replicate,if_pos hk];rfl
 exact⟨⟨emR_len n p _,fun i hi=>by rw [emR_at hi,List.length_replicate,hl],fun i k hi hk=>by rw [hd i k hi hk];omega⟩,hd⟩
theorem z2_Q1 {G H:Prop} (k:H) (h:H→G:=by first|exact fun r=>aS r|exact fun r=>aG r|exact fun r=>aD r|exact fun r=>aH r|exact fun r=>aP_T1 r|exact fun r=>aI r|exact fun r=>aJ r|exact fun r=>aW (.qs [0,1,2,3,4,5,6,7,8,9,10] (.l 11 [] (.qs [12] .nil) .no)) r):G:=h k
theorem z1_Q1 {G H:Prop} (k:H) (h:H→G:=by first|exact fun r=>aS r|exact fun r=>aG r|exact fun r=>aD r|exact fun r=>aP_T1 r|exact fun r=>aI r|exact fun r=>aJ r|exact fun r=>aW (.qs [0,1,2,3,4,5,6,7,8,9,10] (.l 11 [] (.qs [12] .nil) .no)) r):G:=h k
theorem REmp_ok (n:Nt) (hn:NL n) (p:List Pk) (h:SkP n p):Ctr Tryz.prog 60 [ntv n, .psl 3 (pks p)] [] (fun r o=>o=[nbx n, .box [.vec 3], .box [.vec 3], .mat 1 (mtz (emR n p p.length))]∧r= .agg [.vec 3]):=by
 refine fI 0 Tryz.func60 ?_
 have h60:=h.l
 have hpl:=pks_len p
 have hfl:=fll n.fl
 (repeat' (conv=>whnf);first|refine aC ?_ ?_<;>intro<;>try omega|refine z1_Q1 ?_|fail);all_goals try (conv=>whnf)
 refine .mk [.nm 2 0 1] ?_
 refine LoopOb.mk (Y:=Nat) (st:=fun i=>⟨[(6,i64 i),(5, .ptr 2 0),(4, .ptr 1 0),(2, .ptr 0 0),(1, .psl 3 (pks p))],[nbx n, .box [.nil], .box [.vec 3], .mat 1 (mtz (emR n p i))]⟩)
  (inv:=fun i=>i≤p.length) (fun i=>p.length-i) 0 [0,1,2,3] (by omega) (by(exact aL)) ?_
 rintro i hi
 have hml:=(mtz_len (emR n p i)).trans (emR_len n p i)
 by_cases hip:i<p.length
 ·have hg:=pks_get hip
  obtain⟨f1,f2,_,_,hRt,_⟩:=h.fl hip
  have hfg:=flg (l:=n.fl) (i:=(p.getD i pk0).f.toNat) (by omega)
  have r4:=hRt.l2
  have hap:=emR_app n p i
  unfold pfl at r4 hap
  generalize p.getD i pk0=x at*
  generalize n.fl.getD x.f.toNat fl0=f at*
  have hrl:=ints_len f.rt
  (repeat' (conv=>whnf);first|refine⟨x.f.toNat,_,by omega,hfg,?_⟩|refine⟨i,_,rfl,hg,?_⟩|refine aC ?_ ?_<;>intro<;>try omega|refine aS ?_|refine aG ?_|refine aD ?_|refine aH ?_|refine aP_T1 ?_|refine aI ?_|refine aJ ?_|refine⟨_,_,rfl,rfl,Nat.le_refl _,⟨by(simp only;omega),by omega⟩,?_⟩|refine aW (.qs [0,1,2,3,4,5,6,7,8,9,10] (.l 11 [] (.qs [12] .nil) .no)) ?_|fail);all_goals try (conv=>whnf)
  have hr0:List.replicate (ints f.rt).length [i64 0]=ivs f.rt.length (neg 0):=by rw [ints_len,neg_zero];exact ivs_rep _ _
  have hil:=fun F=>ivs_len f.rt.length F
  have hi0:=hil (neg 0)
  refine LoopOb.mk (Y:=Nat) (st:=fun k=>⟨[(29,i64 k),(28,i64 (ivs f.rt.length (neg 0)).length),(7, .vec 4),(6,i64 i),(5, .ptr 2 0),(4, .ptr 1 0),(2, .ptr 0 0),(1, .psl 3 (pks p))],[nbx n, .box [.nil], .box [.vec 3], .mat 1 (mtz (emR n p i)), .vec 1 (ivs f.rt.length (neg k))]⟩)
   (inv:=fun k=>k≤f.rt.length) (fun k=>f.rt.length-k) 0 [0,1,2,3,4] (by omega) (by rw [←hr0];(exact aL)) ?_
  rintro k hk
  have hi1:=hil (neg k)
  by_cases hkl:k<f.rt.length
  ·(repeat' (conv=>whnf);first|refine aC ?_ ?_<;>intro<;>try omega|refine z2_Q1 ?_|refine⟨k,rfl,by omega,?_⟩|refine⟨_,ivs_get hkl,?_⟩|fail);all_goals try (conv=>whnf)
   exact⟨k+1,[0,1,2,3,4],by omega,by omega,by rw [←neg_set];(exact aL)⟩
  ·obtain rfl:k=f.rt.length:=by omega
   rw [neg_all]
   have hfin:ivs f.rt.length (fun _=> -1)=ints (List.replicate f.rt.length (-1)):=by rw [←ivs_rep];simp [ints]
   rw [hfin]
   (repeat' (conv=>whnf);first|refine aC ?_ ?_<;>intro<;>try omega|refine z2_Q1 ?_|fail);all_goals try (conv=>whnf)
   exact⟨i+1,[0,1,2,6],by omega,by omega,by rw [hap];(exact aL)⟩
 ·obtain rfl:i=p.length:=by omega
  (repeat' (conv=>whnf);first|refine aC ?_ ?_<;>intro<;>try omega|refine z2_Q1 ?_|fail);all_goals try (conv=>whnf)
  exact⟨rfl,rfl⟩
end
end Go.Proofs.YtaomhdljcdadaaaGreat
