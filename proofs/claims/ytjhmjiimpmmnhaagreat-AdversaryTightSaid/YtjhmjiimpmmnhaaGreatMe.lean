/- Lemmas of this seat. Conditions: as stated. -/
import Derived.Test.YtjhmjiimpmmnhaaGreatMc
set_option linter.unusedVariables false
set_option linter.unusedSimpArgs false
namespace Go.Mc
open Go.Pk
def sumN (F:Nat→Nat):Nat→Nat
 |0=>0
 |n+1=>sumN F n+F n
theorem sumN_congr {F G:Nat→Nat}:∀{n:Nat},(∀i,i<n→F i=G i)→sumN F n=sumN G n
 |0,_=>rfl
 |n+1,h=>by simp only [sumN];rw [sumN_congr fun i hi=>h i (by omega),h n (by omega)]
theorem sumN_upd {F G:Nat→Nat} {i:Nat}:∀{n:Nat},i<n→(∀j,j≠i→j<n→F j=G j)→sumN F n+G i=sumN G n+F i
 |0,h,_=>by omega
 |n+1,h,hj=>by
  simp only [sumN]
  by_cases e:i=n
  ·subst e
   rw [sumN_congr (n:=i) fun j hj2=>hj j (by omega) (by omega)];omega
  ·have:=sumN_upd (F:=F) (G:=G) (i:=i) (n:=n) (by omega) fun j h1 h2=>hj j h1 (by omega)
   have:=hj n (by omega) (by omega)
   omega
theorem sumN_le {F G:Nat→Nat}:∀{n:Nat},(∀i,i<n→F i≤G i)→sumN F n≤sumN G n
 |0,_=>Nat.le_refl _
 |n+1,h=>by
  simp only [sumN]
  have:=sumN_le (F:=F) (G:=G) (n:=n) fun i hi=>h i (by omega)
  have:=h n (by omega)
  omega
def ph {σ:Type} (p:List Pk) (L:Nat) (S:St σ) (i:Nat):Nat:=
 if S.dn i≠-1 then 0 else match S.cur with
  |some c=>if c.1=i then c.2 else sz p i+(L-1)
  |none=>sz p i+(L-1)
def Ph {σ:Type} (p:List Pk) (L:Nat) (S:St σ):Nat:=sumN (ph p L S) p.length
def Rs {σ:Type} (S:St σ):Prop:=∀c,S.cur=some c→1≤c.2
def Pos (p:List Pk):Prop:=∀i,i<p.length→1≤sz p i
theorem sel_cur {C:Ch} {p:List Pk} {t left:Nat} {S:St C.σ} {c:Nat×Nat} (h:S.cur=some c):sel C p t left S=(S,some c):=by unfold sel;rw [h]
theorem sel_new {C:Ch} {p:List Pk} {t left:Nat} {S:St C.σ} {i:Nat} (h:S.cur=none) (hk:(C.ch p t left (wt p t S.bg) S.s).2 =some i):
  sel C p t left S=({S with s:=(C.ch p t left (wt p t S.bg) S.s).1,bg:=upd S.bg i true},some (i,sz p i)):=by unfold sel;rw [h];simp only;rw [hk]
theorem sel_non {C:Ch} {p:List Pk} {t left:Nat} {S:St C.σ} (h:S.cur=none) (hk:(C.ch p t left (wt p t S.bg) S.s).2 =none):
  sel C p t left S=({S with s:=(C.ch p t left (wt p t S.bg) S.s).1},none):=by unfold sel;rw [h];simp only;rw [hk]
theorem sel_ph {C:Ch} {p:List Pk} (hp:Asc p) (hs:Pos p) {t left:Nat} {S:St C.σ} (h:InvT p t S) (hr:Rs S) (L:Nat) {c:Nat×Nat} (hc:(sel C p t left S).2 =some c):
  1≤c.2∧c.1<p.length∧(S.cur=some c∧Ph p L ((sel C p t left S).1.cu (some c))=Ph p L S∨S.cur=none∧Ph p L ((sel C p t left S).1.cu (some c))+(L-1)=Ph p L S):=by
 obtain⟨s1,s2,_⟩:=sel_inv hp (left:=left) h
 have hi:=s2 c hc
 obtain⟨q1,q2⟩:=hi.c c.1 c.2 rfl
 have hl:=(hi.b c.1 q1).1
 cases hcur:S.cur with
 |some c'=>
  have hse:=sel_cur (C:=C) (p:=p) (t:=t) (left:=left) hcur
  rw [hse]at hc⊢
  simp only [Option.some.injEq]at hc
  subst hc
  refine⟨hr _ hcur,hl, .inl ⟨rfl,?_⟩⟩
  have:S.cu (some c')=S:=by unfold St.cu;rw [←hcur]
  dsimp only
  rw [this]
 |none=>
  cases hk:(C.ch p t left (wt p t S.bg) S.s).2 with
  |none=>rw [sel_non hcur hk]at hc;cases hc
  |some i=>
   have hse:=sel_new hcur hk
   rw [hse]at hc⊢
   simp only [Option.some.injEq]at hc
   subst hc
   dsimp only at hl⊢
   have q2:S.dn i= -1:=by rw [←congrFun s1 i];exact q2
   refine⟨hs i hl,hl, .inr ⟨rfl,?_⟩⟩
   unfold Ph
   have hu:=sumN_upd (F:=ph p L (({S with s:=(C.ch p t left (wt p t S.bg) S.s).1,bg:=upd S.bg i true}:St C.σ).cu (some (i,sz p i)))) (G:=ph p L S) hl fun j hj _=>by
    unfold ph;simp only [hcur];rw [if_neg (show¬i=j from fun e=>hj e.symm)]
   have e1:ph p L (({S with s:=(C.ch p t left (wt p t S.bg) S.s).1,bg:=upd S.bg i true}:St C.σ).cu (some (i,sz p i))) i=sz p i:=by
    unfold ph;simp [q2]
   have e2:ph p L S i=sz p i+(L-1):=by
    unfold ph;simp only [hcur];rw [if_neg (by simpa using q2)]
   rw [e1,e2]at hu
   omega
theorem tk_ph {C:Ch} {p:List Pk} (hp:Asc p) (hs:Pos p) {t:Nat} (L:Nat):∀(left:Nat) {S:St C.σ},InvT p t S→Rs S→
  Rs (tk C p t left S)∧Ph p L (tk C p t left S)≤Ph p L S∧(1≤left→(sel C p t left S).2 ≠none→Ph p L (tk C p t left S)+1+(if S.cur=none then L-1 else 0)≤Ph p L S):=by
 intro left
 induction left using Nat.strongRecOn with
 |ind left ih=>
  intro S h hr
  cases left with
  |zero=>rw [tk];exact⟨hr,Nat.le_refl _,fun h=>by omega⟩
  |succ left=>
   rw [tk]
   obtain⟨s1,s2,s3⟩:=sel_inv hp (left:=left+1) h
   cases hc:(sel C p t (left+1) S).2 with
   |none=>
    simp only
    obtain⟨i1,i2⟩:=s3 hc
    refine⟨fun c hc=>(by rw [i2]at hc;cases hc),?_,fun _ h=>absurd rfl h⟩
    have:S.cur=none:=by
     unfold sel at hc
     cases hcur:S.cur with
     |none=>rfl
     |some c=>simp only [hcur]at hc;cases hc
    unfold Ph
    exact Nat.le_of_eq (sumN_congr fun i _=>by unfold ph;rw [i2,this,s1])
   |some c=>
    simp only
    have hi:=s2 c hc
    obtain⟨q1,q2⟩:=hi.c c.1 c.2 rfl
    obtain⟨r1,r2,r3⟩:=sel_ph hp hs h hr L hc
    have hb:Ph p L ((sel C p t (left+1) S).1.cu (some c))+(if S.cur=none then L-1 else 0)≤Ph p L S:=by
     rcases r3 with⟨e,h⟩|⟨e,h⟩
     ·rw [if_neg (by rw [e];simp)];omega
     ·rw [if_pos e];omega
    simp only at q2
    have e1:ph p L ((sel C p t (left+1) S).1.cu (some c)) c.1=c.2:=by
     unfold ph;simp only;rw [if_neg (by simpa using q2)];simp
    split
    ·have hnx:InvT p t ((sel C p t (left+1) S).1.fi c.1 t):=by
      have:=tk_inv hp (left+1) (C:=C) (t:=t) h
      refine⟨fun j=>?_,fun j r hj=>(by cases hj),hi.b,fun j h1 h2=>?_,hi.f,fun j k hjk hcl hk=>?_⟩
      ·dsimp only
       by_cases e:j=c.1
       ·subst e;obtain⟨b1,b2⟩:=hi.b c.1 q1;exact .inr ⟨q1,by rw [upd_same];exact b2,by rw [upd_same];omega,by rw [upd_same];omega⟩
       ·rw [upd_ne e];exact hi.d j
      ·dsimp only at h1 h2
       by_cases e:j=c.1
       ·subst e;rw [upd_same]at h2;omega
       ·rw [upd_ne e]at h2
        obtain⟨r,hr⟩:=hi.e j h1 h2
        simp only [Option.some.injEq]at hr
        exact absurd (by rw [hr]) e
      ·dsimp only at hk⊢
       by_cases e:k=c.1
       ·subst e
        rw [upd_ne (show j≠c.1 by omega),upd_same]
        have hb:=hi.f j c.1 hjk hcl q1
        have hdj:=hi.d j
        dsimp only at hdj
        rcases hdj with hd|hd
        ·obtain⟨r,hr⟩:=hi.e j hb hd
         simp only [Option.some.injEq]at hr
         have:c.1=j:=by rw [hr]
         omega
        ·exact⟨by omega,by omega⟩
       ·rw [upd_ne e]at hk
        have:=hi.o j k hjk hcl hk
        by_cases e2:j=c.1
        ·subst e2;exact absurd q2 this.1
        ·rw [upd_ne e2,upd_ne e];exact this
     obtain⟨k1,k2,_⟩:=ih (left-(c.2-1)) (by omega) hnx (fun c hc=>by cases hc)
     have hu:=sumN_upd (F:=ph p L ((sel C p t (left+1) S).1.fi c.1 t)) (G:=ph p L ((sel C p t (left+1) S).1.cu (some c))) r2 fun j hj _=>by
      unfold ph;simp only;rw [upd_ne hj,if_neg (show¬c.1=j from fun e=>hj e.symm)]
     have e2:ph p L ((sel C p t (left+1) S).1.fi c.1 t) c.1=0:=by
      unfold ph;simp only;rw [upd_same,if_pos (by omega)]
     rw [e1,e2]at hu
     unfold Ph at hb
     have k3:Ph p L ((sel C p t (left+1) S).1.fi c.1 t)+1+(if S.cur=none then L-1 else 0)≤Ph p L S:=by unfold Ph;omega
     have k4:=Nat.le_trans (Nat.add_le_add_right (Nat.add_le_add_right k2 1) (if S.cur=none then L-1 else 0)) k3
     exact⟨k1,Nat.le_trans (by omega) k4,fun _ _=>k4⟩
    ·have hu:=sumN_upd (F:=ph p L ((sel C p t (left+1) S).1.cu (some (c.1,c.2-(left+1))))) (G:=ph p L ((sel C p t (left+1) S).1.cu (some c))) r2 fun j hj _=>by
      unfold ph;simp only;rw [if_neg (show¬c.1=j from fun e=>hj e.symm),if_neg (show¬c.1=j from fun e=>hj e.symm)]
     have e2:ph p L ((sel C p t (left+1) S).1.cu (some (c.1,c.2-(left+1)))) c.1=c.2-(left+1):=by
      unfold ph;simp only;rw [if_neg (by simpa using q2)];simp
     rw [e1,e2]at hu
     refine⟨fun c' hc'=>?_,?_,fun _ _=>?_⟩
     ·simp only [Option.some.injEq]at hc'
      subst hc'
      simp only;omega
     ·unfold Ph at*;omega
     ·unfold Ph at*;omega
theorem run_rs {C:Ch} {p:List Pk} (hp:Asc p) (hs:Pos p) {c:Nat}:∀t,Rs (run C p c t)
 |0=>fun c h=>by cases h
 |t+1=>(tk_ph hp hs 1 c (run_inv hp t).inT (run_rs hp hs t)).1
theorem tk_some {C:Ch} {p:List Pk} {t left:Nat} {S:St C.σ} {i r:Nat} (h:S.cur=some (i,r)) (h1:1≤r) (h2:r≤left):tk C p t left S=tk C p t (left-r) (S.fi i t):=by
 obtain⟨l,rfl⟩:∃l,left=l+1:=⟨left-1,by omega⟩
 rw [tk,sel_cur h]
 simp only
 rw [if_pos h2,show l-(r-1)=l+1-r by omega]
theorem tk_more {C:Ch} {p:List Pk} {t left:Nat} {S:St C.σ} {i r:Nat} (h:S.cur=some (i,r)) (h1:1≤left) (h2:left<r):tk C p t left S=tk C p t 0 (S.cu (some (i,r-left))):=by
 obtain⟨l,rfl⟩:∃l,left=l+1:=⟨left-1,by omega⟩
 rw [show tk C p t 0 (S.cu (some (i,r-(l+1))))=S.cu (some (i,r-(l+1)))by rw [tk]]
 rw [tk,sel_cur h]
 simp only
 rw [if_neg (by omega)]
theorem tk_new {C:Ch} {p:List Pk} {t left:Nat} {S:St C.σ} {i:Nat} (h:S.cur=none) (hk:(C.ch p t left (wt p t S.bg) S.s).2 =some i) (h1:1≤left):
  tk C p t left S=tk C p t left ⟨(C.ch p t left (wt p t S.bg) S.s).1,some (i,sz p i),upd S.bg i true,S.dn⟩:=by
 obtain⟨l,rfl⟩:∃l,left=l+1:=⟨left-1,by omega⟩
 rw [tk,tk,sel_new h hk,sel_cur rfl]
theorem tk_non {C:Ch} {p:List Pk} {t left:Nat} {S:St C.σ} (h:S.cur=none) (hk:(C.ch p t left (wt p t S.bg) S.s).2 =none) (h1:1≤left):
  tk C p t left S=⟨(C.ch p t left (wt p t S.bg) S.s).1,none,S.bg,S.dn⟩:=by
 obtain⟨l,rfl⟩:∃l,left=l+1:=⟨left-1,by omega⟩
 rw [tk,sel_non h hk]
 simp only [h]
theorem new_inv {C:Ch} {p:List Pk} (hp:Asc p) {t left:Nat} {S:St C.σ} (h:InvT p t S) {i:Nat} (hc:S.cur=none) (hk:(C.ch p t left (wt p t S.bg) S.s).2 =some i):
  InvT p t (⟨(C.ch p t left (wt p t S.bg) S.s).1,some (i,sz p i),upd S.bg i true,S.dn⟩:St C.σ):=by
 have:=(sel_inv hp (left:=left) h).2.1 (i,sz p i) (by rw [sel_new hc hk])
 rw [sel_new hc hk]at this
 exact this
theorem cu_inv {σ:Type} {p:List Pk} {t:Nat} {S:St σ} (h:InvT p t S) {i r r':Nat} (hc:S.cur=some (i,r)):InvT p t (S.cu (some (i,r'))):=by
 obtain⟨q1,q2⟩:=h.c i r hc
 refine⟨h.d,fun j k hj=>?_,h.b,fun j h1 h2=>?_,h.f,h.o⟩
 ·simp only [Option.some.injEq,Prod.mk.injEq]at hj
  obtain⟨rfl,_⟩:=hj
  exact⟨q1,q2⟩
 ·obtain⟨k,hk⟩:=h.e j h1 h2
  rw [hc]at hk
  simp only [Option.some.injEq,Prod.mk.injEq]at hk
  exact⟨r',by simp only [Option.some.injEq,Prod.mk.injEq];exact⟨hk.1,trivial⟩⟩
theorem fi_inv {C:Ch} {p:List Pk} (hp:Asc p) {t:Nat} {S:St C.σ} (h:InvT p t S) {i r:Nat} (hc:S.cur=some (i,r)):InvT p t (S.fi i t):=by
 have:=(tk_inv hp 1 (cu_inv (r':=1) h hc)).1
 rw [tk_some (i:=i) (r:=1) rfl (Nat.le_refl _) (Nat.le_refl _),tk]at this
 exact this
structure Idle (C:Ch) (p:List Pk) (c L:Nat):Prop where
 one:1≤L
 nop:∀t left w s,(C.ch p t left w s).2 =none→(C.ch p t left w s).1 =s
 rest:∀(t:Nat) bg s,(∀i,i<p.length→tm p i≤t)→(∀j:Nat,j<L→(C.ch p (t+j) c (wt p (t+j) bg) s).2 =none)→∀j:Nat,(C.ch p (t+j) c (wt p (t+j) bg) s).2 =none
theorem tk_idle {C:Ch} {p:List Pk} {c L t:Nat} (hC:Idle C p c L) (hc:1≤c) {S:St C.σ} (h1:S.cur=none) (h2:(C.ch p t c (wt p t S.bg) S.s).2 =none):tk C p t c S=S:=by
 obtain⟨c,rfl⟩:∃k,c=k+1:=⟨c-1,by omega⟩
 have hs:sel C p t (c+1) S=(S,none):=by
  unfold sel
  simp only [h1,h2]
  rw [hC.nop _ _ _ _ h2,←h1]
 rw [tk,hs]
theorem run_idle {C:Ch} {p:List Pk} {c L:Nat} (hC:Idle C p c L) (hc:1≤c) {t:Nat} (h1:(run C p c t).cur =none):∀k,(∀j,j<k→(C.ch p (t+j) c (wt p (t+j) (run C p c t).bg) (run C p c t).s).2 =none)→run C p c (t+k)=run C p c t
 |0,_=>rfl
 |k+1,h=>by
  have ih:=run_idle hC hc h1 k fun j hj=>h j (by omega)
  rw [show t+(k+1)=t+k+1 by omega]
  simp only [run]
  rw [ih]
  exact tk_idle hC hc h1 (h k (by omega))
theorem enough {C:Ch} {p:List Pk} (hp:Asc p) (hs:Pos p) {c L:Nat} (hC:Idle C p c L) (hc:1≤c):∀(N t:Nat),(∀i,i<p.length→tm p i≤t)→Ph p L (run C p c t)≤N→∀k,N≤k→(run C p c (t+k)).dn =(run C p c (t+N)).dn :=by
 intro N
 induction N using Nat.strongRecOn with
 |ind N ih=>
  intro t ht hN k hk
  have hL:=hC.one
  have step:=fun u=>(tk_ph hp hs L c (run_inv hp (C:=C) (c:=c) u).inT (run_rs hp hs u)).2.2 hc
  have key:∀j,j<L→(∀i,i<j→(C.ch p (t+i) c (wt p (t+i) (run C p c t).bg) (run C p c t).s).2 =none)→(run C p c t).cur =none→(C.ch p (t+j) c (wt p (t+j) (run C p c t).bg) (run C p c t).s).2 ≠none→(run C p c (t+k)).dn =(run C p c (t+N)).dn :=by
   intro j hj h1 h2 h3
   have e:=run_idle hC hc h2 j h1
   have hst:=step (t+j) (by
    unfold sel
    rw [e,h2]
    simp only
    cases hx:(C.ch p (t+j) c (wt p (t+j) (run C p c t).bg) (run C p c t).s).2 with
    |none=>exact absurd hx h3
    |some i=>simp)
   rw [e,h2,if_pos rfl]at hst
   have hr:run C p c (t+j+1)=tk C p (t+j) c (run C p c t):=by simp only [run];rw [e]
   rw [←hr]at hst
   have:=ih (N-(j+1)) (by omega) (t+j+1) (fun i hi=>by have:=ht i hi;omega) (by omega) (k-(j+1)) (by omega)
   rw [show t+j+1+(k-(j+1))=t+k by omega,show t+j+1+(N-(j+1))=t+N by omega]at this
   exact this
  cases hcur:(run C p c t).cur with
  |some cc=>
   have hst:=step t (by unfold sel;rw [hcur];simp)
   rw [hcur,if_neg (by simp)]at hst
   have hr:run C p c (t+1)=tk C p t c (run C p c t):=rfl
   rw [←hr]at hst
   have:=ih (N-1) (by omega) (t+1) (fun i hi=>by have:=ht i hi;omega) (by omega) (k-1) (by omega)
   rw [show t+1+(k-1)=t+k by omega,show t+1+(N-1)=t+N by omega]at this
   exact this
  |none=>
   by_cases hall:∀j,j<L→(C.ch p (t+j) c (wt p (t+j) (run C p c t).bg) (run C p c t).s).2 =none
   ·have hf:=hC.rest t (run C p c t).bg (run C p c t).s ht hall
    rw [run_idle hC hc hcur k fun j _=>hf j,run_idle hC hc hcur N fun j _=>hf j]
   ·
    have least:∀j:Nat,j<L→(C.ch p (t+j) c (wt p (t+j) (run C p c t).bg) (run C p c t).s).2 ≠none→∃j:Nat,j<L∧(∀i:Nat,i<j→(C.ch p (t+i) c (wt p (t+i) (run C p c t).bg) (run C p c t).s).2 =none)∧(C.ch p (t+j) c (wt p (t+j) (run C p c t).bg) (run C p c t).s).2 ≠none:=by
     intro j
     induction j using Nat.strongRecOn with
     |ind j ihj=>
      intro hj1 hj2
      by_cases hl:∀i:Nat,i<j→(C.ch p (t+i) c (wt p (t+i) (run C p c t).bg) (run C p c t).s).2 =none
      ·exact⟨j,hj1,hl,hj2⟩
      ·obtain⟨i,hi⟩:=Classical.not_forall.1 hl
       obtain⟨hi1,hi2⟩:=Classical.not_imp.1 hi
       exact ihj i hi1 (by omega) hi2
    have:∃j:Nat,j<L∧(∀i:Nat,i<j→(C.ch p (t+i) c (wt p (t+i) (run C p c t).bg) (run C p c t).s).2 =none)∧(C.ch p (t+j) c (wt p (t+j) (run C p c t).bg) (run C p c t).s).2 ≠none:=by
     obtain⟨j,hj⟩:=Classical.not_forall.1 hall
     obtain⟨hj1,hj2⟩:=Classical.not_imp.1 hj
     exact least j hj1 hj2
    obtain⟨j,h1,h2,h3⟩:=this
    exact key j h1 h2 hcur h3
def byt (p:List Pk):Nat:=sumN (sz p) p.length
theorem run_enough {C:Ch} {p:List Pk} (hp:Asc p) (hs:Pos p) {c L:Nat} (hC:Idle C p c L) (hc:1≤c) {last E T:Nat} (hl:∀i,i<p.length→tm p i≤last) (hE:last+byt p+(L-1)*p.length≤E) (hT:last+byt p+(L-1)*p.length≤T):
  (run C p c E).dn =(run C p c T).dn :=by
 have hb:∀S:St C.σ,Rs S→(∀i r,S.cur=some (i,r)→r≤sz p i)→Ph p L S≤byt p+(L-1)*p.length:=fun S _ h=>by
  have h1:Ph p L S≤sumN (fun i=>sz p i+(L-1)) p.length:=sumN_le fun i _=>by
   unfold ph
   split
   ·omega
   ·split
    ·rename_i c hc
     split
     ·rename_i e;subst e;have:=h c.1 c.2 hc;omega
     ·omega
    ·omega
  have h2:∀n,sumN (fun i=>sz p i+(L-1)) n=sumN (sz p) n+(L-1)*n:=by
   intro n
   induction n with
   |zero=>rfl
   |succ n ih=>simp only [sumN];rw [ih,Nat.mul_succ];omega
  unfold byt
  rw [h2]at h1;exact h1
 have h0:∀t,Ph p L (run C p c t)≤byt p+(L-1)*p.length:=fun t=>by
  induction t with
  |zero=>exact hb _ (fun c h=>by cases h) (fun i r h=>by cases h)
  |succ t ih=>
   have:=(tk_ph hp hs L c (run_inv hp (C:=C) (c:=c) t).inT (run_rs hp hs t)).2.1
   exact Nat.le_trans this ih
 have:=enough hp hs hC hc (byt p+(L-1)*p.length) last hl (h0 last)
 have e1:=this (E-last) (by omega)
 have e2:=this (T-last) (by omega)
 rw [show last+(E-last)=E by omega]at e1
 rw [show last+(T-last)=T by omega]at e2
 rw [e1,e2]
end Go.Mc
