/- Lemmas of this seat. Conditions: as stated. -/
import Derived.Test.YtjhmjiimpmmnhaaGreatMe
set_option linter.unusedVariables false
set_option linter.unusedSimpArgs false
namespace Go.Mc
open Go.Pk
def fc (p:List Pk) (w:Nat→Bool) (c:Int):Option Nat:=fst (fun i=>w i && decide (cl p i=c)) p.length
theorem fc_some {p:List Pk} {w:Nat→Bool} {c:Int} {i:Nat}:fc p w c=some i↔(i<p.length∧w i=true∧cl p i=c∧∀j,j<i→cl p j=c→w j=false):=by
 unfold fc
 rw [fst_some]
 simp only [Bool.and_eq_true,decide_eq_true_eq,and_assoc]
 constructor
 ·rintro⟨h1,h2,h3,h4⟩
  refine⟨h1,h2,h3,fun j hj hc=>?_⟩
  have:=h4 j hj
  cases hw:w j with
  |false=>rfl
  |true=>rw [hw]at this;simp [hc]at this
 ·rintro⟨h1,h2,h3,h4⟩
  refine⟨h1,h2,h3,fun j hj=>?_⟩
  by_cases hc:cl p j=c
  ·rw [h4 j hj hc];rfl
  ·simp [hc]
theorem fc_none {p:List Pk} {w:Nat→Bool} {c:Int}:fc p w c=none↔∀j,j<p.length→cl p j=c→w j=false:=by
 unfold fc
 rw [fst_none]
 constructor
 ·intro h j hj hc
  have:=h j hj
  simpa [hc]using this
 ·intro h j hj
  by_cases hc:cl p j=c
  ·rw [h j hj hc];rfl
  ·simp [hc]
theorem fc_loc {p p':List Pk} {w:Nat→Bool} {c:Int} (h:∀i,w i=true→i<p.length∧i<p'.length∧p.getD i pk0=p'.getD i pk0):fc p w c=fc p' w c:=by
 unfold fc
 refine fst_ext (fun i=>?_) (fun i hi=>?_) (fun i hi=>?_)
 ·cases hw:w i with
  |false=>rfl
  |true=>have:=(h i hw).2.2;unfold cl;rw [this]
 ·simp only [Bool.and_eq_true]at hi;exact(h i hi.1).1
 ·simp only [Bool.and_eq_true]at hi;exact(h i hi.1).2.1
theorem sz_loc {p p':List Pk} {w:Nat→Bool} (h:∀i,w i=true→i<p.length∧i<p'.length∧p.getD i pk0=p'.getD i pk0) {i:Nat} (hi:w i=true):sz p i=sz p' i:=by
 unfold sz;rw [(h i hi).2.2]
def fifoC:Ch where
 σ:=Unit
 s0:=()
 ch:=fun p _ _ w s=>(s,fst w p.length)
 sub:=fun hw h=>by
  obtain⟨h1,h2,h3⟩:=fst_some.1 h
  exact⟨h2,fun j hj _=>h3 j hj⟩
 loc:=fun h=>by
  rw [fst_ext (fun i=>rfl) (fun i hi=>(h i hi).1) (fun i hi=>(h i hi).2.1)]
def pri (f:Int→Option Nat):Nat→Option Nat
 |0=>none
 |n+1=>match pri f n with
  |some i=>some i
  |none=>f n
theorem pri_some {f:Int→Option Nat} {i:Nat}:∀{n:Nat},pri f n=some i→∃c:Nat,c<n∧f c=some i
 |0,h=>by cases h
 |n+1,h=>by
  simp only [pri]at h
  cases hp:pri f n with
  |some k=>
   rw [hp]at h
   simp only [Option.some.injEq]at h
   subst h
   obtain⟨c,h1,h2⟩:=pri_some hp
   exact⟨c,by omega,h2⟩
  |none=>rw [hp]at h;exact⟨n,by omega,h⟩
theorem pri_congr {f g:Int→Option Nat} (h:∀c,f c=g c):∀n,pri f n=pri g n
 |0=>rfl
 |n+1=>by simp only [pri];rw [pri_congr h n,h]
def prioC (n:Nat):Ch where
 σ:=Unit
 s0:=()
 ch:=fun p _ _ w s=>(s,pri (fc p w) n)
 sub:=fun hw h=>by
  obtain⟨c,_,h2⟩:=pri_some h
  obtain⟨_,h3,h4,h5⟩:=fc_some.1 h2
  exact⟨h3,fun j hj hc=>h5 j hj (by rw [hc,h4])⟩
 loc:=fun h=>by rw [pri_congr (fun c=>fc_loc h)]
def rob (f:Int→Option Nat) (wl:Nat→Int) (N:Nat):Nat→Nat×Int→(Nat×Int)×Option Nat
 |0,s=>(s,none)
 |k+1,s=>match f s.1 with
  |some i=>if 0<s.2 then((s.1,s.2-1),some i)else rob f wl N k ((s.1+1)%N,wl ((s.1+1)%N))
  |none=>rob f wl N k ((s.1+1)%N,wl ((s.1+1)%N))
theorem rob_some {f:Int→Option Nat} {wl:Nat→Int} {N i:Nat}:∀{k:Nat} {s:Nat×Int},(rob f wl N k s).2 =some i→∃c:Nat,f c=some i
 |0,s,h=>by cases h
 |k+1,s,h=>by
  simp only [rob]at h
  cases hf:f s.1 with
  |none=>rw [hf]at h;exact rob_some h
  |some j=>
   rw [hf]at h
   simp only at h
   split at h
   ·simp only [Option.some.injEq]at h;subst h;exact⟨_,hf⟩
   ·exact rob_some h
theorem rob_congr {f g:Int→Option Nat} {wl:Nat→Int} {N:Nat} (h:∀c,f c=g c):∀k s,rob f wl N k s=rob g wl N k s
 |0,_=>rfl
 |k+1,s=>by simp only [rob];rw [h,rob_congr h k]
theorem rob_ends' {f:Int→Option Nat} {wl:Nat→Int} {N:Nat} (hN:1≤N) (hw:∀c,c<N→1≤wl c) {cs:Nat} (hcs:cs<N) (hf:f cs≠none):∀{d k:Nat} {s:Nat×Int},s.1<N→1≤s.2→(s.1+d)%N=cs→d<k→(rob f wl N k s).2 ≠none
 |d,0,s,_,_,_,hk=>by omega
 |d,k+1,s,hs,hl,hd,hk=>by
  simp only [rob]
  cases hfs:f s.1 with
  |some i=>simp only;rw [if_pos (by omega)];simp
  |none=>
   simp only
   cases d with
   |zero=>
    rw [Nat.add_zero,Nat.mod_eq_of_lt hs]at hd
    rw [←hd]at hf
    exact absurd hfs hf
   |succ d=>
    have h1:(s.1+1)%N<N:=Nat.mod_lt _ hN
    exact rob_ends' hN hw hcs hf (d:=d) h1 (hw _ h1) (by rw [Nat.mod_add_mod,←hd];congr 1;omega) (by omega)
theorem rob_ends {f:Int→Option Nat} {wl:Nat→Int} {N:Nat} (hN:1≤N) (hw:∀c,c<N→1≤wl c) {cs:Nat} (hcs:cs<N) (hf:f cs≠none) {s:Nat×Int} (hs:s.1<N):(rob f wl N (N+2) s).2 ≠none:=by
 have h1:(s.1+1)%N<N:=Nat.mod_lt _ hN
 have key:(rob f wl N (N+1) ((s.1+1)%N,wl ((s.1+1)%N))).2 ≠none:=by
  refine rob_ends' hN hw hcs hf (d:=(cs+N-(s.1+1)%N)%N) h1 (hw _ h1) ?_ ?_
  ·have:(cs+N-(s.1+1)%N)%N<N:=Nat.mod_lt _ hN
   simp only
   rw [Nat.add_mod_mod]
   rw [show(s.1+1)%N+(cs+N-(s.1+1)%N)=cs+N by omega,Nat.add_mod_right,Nat.mod_eq_of_lt hcs]
  ·have:(cs+N-(s.1+1)%N)%N<N:=Nat.mod_lt _ hN
   omega
 rw [show N+2=(N+1)+1 by omega]
 simp only [rob]
 cases hfs:f s.1 with
 |none=>exact key
 |some i=>
  simp only
  split
  ·simp
  ·exact key
def robinC (wl:List Int):Ch where
 σ:=Nat×Int
 s0:=(0,wl.getD 0 0)
 ch:=fun p _ _ w s=>if fst w p.length=none then(s,none)else match(rob (fc p w) (fun c=>wl.getD c 0) wl.length (wl.length+2) s).2 with
  |some i=>((rob (fc p w) (fun c=>wl.getD c 0) wl.length (wl.length+2) s).1,some i)
  |none=>(s,none)
 sub:=fun hw h=>by
  split at h
  ·cases h
  ·split at h
   ·rename_i i hi
    simp only [Option.some.injEq]at h
    subst h
    obtain⟨c,h2⟩:=rob_some hi
    obtain⟨_,h3,h4,h5⟩:=fc_some.1 h2
    exact⟨h3,fun j hj hc=>h5 j hj (by rw [hc,h4])⟩
   ·cases h
 loc:=fun {p p' t left w s} h=>by
  rw [fst_ext (fun i=>rfl) (fun i hi=>(h i hi).1) (fun i hi=>(h i hi).2.1),rob_congr (fun c=>fc_loc h)]
structure Df where
 c:Nat
 b:Bool
 d:Nat→Int
def dq (q:Nat→Int) (s:Df):Nat→Int:=if s.b=true then s.d else upd s.d s.c (s.d s.c+q s.c)
def dfc (f:Int→Option Nat) (z:Nat→Nat) (q:Nat→Int) (N:Nat):Nat→Df→Df×Option Nat
 |0,s=>(s,none)
 |k+1,s=>match f s.c with
  |some i=>if(z i:Int)≤dq q s s.c then(⟨s.c,true,upd (dq q s) s.c (dq q s s.c-z i)⟩,some i)else dfc f z q N k ⟨(s.c+1)%N,false,dq q s⟩
  |none=>dfc f z q N k ⟨(s.c+1)%N,false,upd s.d s.c 0⟩
theorem dfc_some {f:Int→Option Nat} {z:Nat→Nat} {q:Nat→Int} {N i:Nat}:∀{k:Nat} {s:Df},(dfc f z q N k s).2 =some i→∃c:Nat,f c=some i
 |0,s,h=>by cases h
 |k+1,s,h=>by
  simp only [dfc]at h
  cases hf:f s.c with
  |none=>rw [hf]at h;exact dfc_some h
  |some j=>
   rw [hf]at h
   simp only at h
   split at h
   ·simp only [Option.some.injEq]at h;subst h;exact⟨_,hf⟩
   ·exact dfc_some h
theorem dfc_congr {f g:Int→Option Nat} {z z':Nat→Nat} {q:Nat→Int} {N:Nat} (h:∀c,f c=g c) (hz:∀c i,f c=some i→z i=z' i):∀k s,dfc f z q N k s=dfc g z' q N k s
 |0,_=>rfl
 |k+1,s=>by
  simp only [dfc]
  rw [←h]
  cases hf:f s.c with
  |none=>simp only;rw [dfc_congr h hz k]
  |some i=>simp only;rw [hz _ _ hf,dfc_congr h hz k]
theorem dfc_ends' {f:Int→Option Nat} {z:Nat→Nat} {q:Nat→Int} {N M:Nat} (hN:1≤N) (hq:∀c,c<N→1≤q c) {cs i:Nat} (hcs:cs<N) (hf:f cs=some i) (hz:z i≤M):
  ∀{k d m:Nat} {s:Df},s.c<N→s.b=false→(M:Int)-s.d cs≤m→(s.c+d)%N=cs→d<N→m*N+d+1≤k→(dfc f z q N k s).2 ≠none
 |0,d,m,s,_,_,_,_,_,hk=>by omega
 |k+1,d,m,s,hs,hb,hm,hd,hdN,hk=>by
  simp only [dfc]
  have hdq:dq q s=upd s.d s.c (s.d s.c+q s.c):=by unfold dq;rw [hb];rfl
  have h1:(s.c+1)%N<N:=Nat.mod_lt _ hN
  have hq1:=hq s.c hs
  cases d with
  |zero=>
   rw [Nat.add_zero,Nat.mod_eq_of_lt hs]at hd
   subst hd
   rw [hf]
   simp only
   split
   ·simp
   ·rename_i hlt
    rw [hdq,upd_same]at hlt
    have hm1:1≤m:=by omega
    obtain⟨m',rfl⟩:∃m',m=m'+1:=⟨m-1,by omega⟩
    rw [Nat.add_mul,Nat.one_mul]at hk
    refine dfc_ends' hN hq hcs hf hz (d:=N-1) (m:=m') (Nat.mod_lt _ hN) rfl ?_ ?_ (by omega) (by omega)
    ·simp only
     rw [hdq,upd_same]
     omega
    ·simp only
     rw [Nat.mod_add_mod,show s.c+1+(N-1)=s.c+N by omega,Nat.add_mod_right,Nat.mod_eq_of_lt hcs]
  |succ d=>
   have hne:cs≠s.c:=by
    intro e
    rw [←e]at hd
    have h2:(cs+(d+1))%N=cs:=hd
    rcases Nat.lt_or_ge (cs+(d+1)) N with h3|h3
    ·rw [Nat.mod_eq_of_lt h3]at h2;omega
    ·rw [Nat.mod_eq_sub_mod h3,Nat.mod_eq_of_lt (by omega)]at h2;omega
   have hnx:((s.c+1)%N+d)%N=cs:=by rw [Nat.mod_add_mod,←hd];congr 1;omega
   cases hfs:f s.c with
   |some j=>
    simp only
    split
    ·simp
    ·refine dfc_ends' hN hq hcs hf hz (d:=d) (m:=m) h1 rfl ?_ hnx (by omega) (by omega)
     simp only
     rw [hdq,upd_ne hne];exact hm
   |none=>
    simp only
    refine dfc_ends' hN hq hcs hf hz (d:=d) (m:=m) h1 rfl ?_ hnx (by omega) (by omega)
    simp only
    rw [upd_ne hne];exact hm
def fuelD (N M:Nat):Nat:=(M+1)*N+N+3
theorem dfc_ends {f:Int→Option Nat} {z:Nat→Nat} {q:Nat→Int} {N M:Nat} (hN:1≤N) (hq:∀c,c<N→1≤q c) {cs i:Nat} (hcs:cs<N) (hf:f cs=some i) (hz:z i≤M) {s:Df} (hs:s.c<N) (hd:∀c,0≤s.d c):
  (dfc f z q N (fuelD N M) s).2 ≠none:=by
 have h1:(s.c+1)%N<N:=Nat.mod_lt _ hN
 have hdq:∀c,0≤dq q s c:=fun c=>by
  unfold dq;split
  ·exact hd c
  ·by_cases e:c=s.c
   ·subst e;rw [upd_same];have:=hd s.c;have:=hq s.c hs;omega
   ·rw [upd_ne e];exact hd c
 have key:∀d':Nat→Int,(∀c,0≤d' c)→(dfc f z q N ((M+1)*N+N+2) ⟨(s.c+1)%N,false,d'⟩).2 ≠none:=fun d' h'=>by
  have h4:(cs+N-(s.c+1)%N)%N<N:=Nat.mod_lt _ hN
  refine dfc_ends' hN hq hcs hf hz (d:=(cs+N-(s.c+1)%N)%N) (m:=M+1) h1 rfl (by simp only;have:=h' cs;omega) ?_ h4 (by omega)
  simp only
  rw [Nat.add_mod_mod]
  rw [show(s.c+1)%N+(cs+N-(s.c+1)%N)=cs+N by omega,Nat.add_mod_right,Nat.mod_eq_of_lt hcs]
 unfold fuelD
 rw [show(M+1)*N+N+3=((M+1)*N+N+2)+1 by omega]
 simp only [dfc]
 cases hfs:f s.c with
 |none=>
  simp only
  exact key _ fun c=>by
   by_cases e:c=s.c
   ·subst e;rw [upd_same];exact Int.le_refl _
   ·rw [upd_ne e];exact hd c
 |some j=>
  simp only
  split
  ·simp
  ·exact key _ hdq
def defC (q:List Int):Ch where
 σ:=Df
 s0:=⟨0,false,fun _=>0⟩
 ch:=fun p _ _ w s=>if fst w p.length=none then(s,none)else match(dfc (fc p w) (sz p) (fun c=>q.getD c 0) q.length (fuelD q.length 1500) s).2 with
  |some i=>((dfc (fc p w) (sz p) (fun c=>q.getD c 0) q.length (fuelD q.length 1500) s).1,some i)
  |none=>(s,none)
 sub:=fun hw h=>by
  split at h
  ·cases h
  ·split at h
   ·rename_i i hi
    simp only [Option.some.injEq]at h
    subst h
    obtain⟨c,h2⟩:=dfc_some hi
    obtain⟨_,h3,h4,h5⟩:=fc_some.1 h2
    exact⟨h3,fun j hj hc=>h5 j hj (by rw [hc,h4])⟩
   ·cases h
 loc:=fun {p p' t left w s} h=>by
  rw [fst_ext (fun i=>rfl) (fun i hi=>(h i hi).1) (fun i hi=>(h i hi).2.1),dfc_congr (z':=sz p') (fun c=>fc_loc h) (fun c i hi=>by
   rw [fc_loc h]at hi;exact sz_loc h (fc_some.1 hi).2.1)]
def ahd (tb:List Int) (c:Int) (t:Nat):Nat→Option Nat
 |0=>none
 |n+1=>match ahd tb c t n with
  |some k=>some k
  |none=>if tb.getD ((t+n)%tb.length) 0≠c then some n else none
theorem ahd_mod (tb:List Int) (c:Int) {t t':Nat} (h:t%tb.length=t'%tb.length):∀n,ahd tb c t n=ahd tb c t' n
 |0=>rfl
 |n+1=>by
  simp only [ahd]
  rw [ahd_mod tb c h n,show(t+n)%tb.length=(t'+n)%tb.length by rw [Nat.add_mod,h,←Nat.add_mod]]
def slotC (cap:Nat) (tb:List Int):Ch where
 σ:=Unit
 s0:=()
 ch:=fun p t left w s=>(s,if tb.getD (t%tb.length) 0<0 then none else match fc p w (tb.getD (t%tb.length) 0)with
  |none=>none
  |some i=>match ahd tb (tb.getD (t%tb.length) 0) t tb.length with
   |none=>some i
   |some n=>if(sz p i:Int)>(left:Int)+((n:Int)-1)*cap then none else some i)
 sub:=fun {p t left w s i} hw h=>by
  simp only at h
  split at h
  ·cases h
  ·split at h
   ·cases h
   ·rename_i j hj
    obtain⟨_,h3,h4,h5⟩:=fc_some.1 hj
    have:j=i:=by
     split at h
     ·simpa using h
     ·split at h
      ·cases h
      ·simpa using h
    subst this
    exact⟨h3,fun k hk hc=>h5 k hk (by rw [hc,h4])⟩
 loc:=fun {p p' t left w s} h=>by
  rw [fc_loc h]
  split
  ·rfl
  ·congr 1
   split
   ·rfl
   ·rename_i i hi
    rw [sz_loc h (fc_some.1 hi).2.1]
theorem wt_all {p:List Pk} {bg:Nat→Bool} {t j:Nat} (h:∀i,i<p.length→tm p i≤t):wt p (t+j) bg=wt p t bg:=funext fun i=>by
 rw [Bool.eq_iff_iff,wt_iff,wt_iff]
 constructor
 ·rintro⟨h1,_,h3⟩;exact⟨h1,h i h1,h3⟩
 ·rintro⟨h1,h2,h3⟩;exact⟨h1,by omega,h3⟩
theorem fifo_idle (p:List Pk) (c:Nat):Idle fifoC p c 1:=
 ⟨Nat.le_refl _,fun _ _ _ _ _=>rfl,fun t bg s h1 h2 j=>by have:=h2 0 (by omega);rw [Nat.add_zero]at this;rw [wt_all h1];exact this⟩
theorem prio_idle (n:Nat) (p:List Pk) (c:Nat):Idle (prioC n) p c 1:=
 ⟨Nat.le_refl _,fun _ _ _ _ _=>rfl,fun t bg s h1 h2 j=>by have:=h2 0 (by omega);rw [Nat.add_zero]at this;rw [wt_all h1];exact this⟩
theorem robin_idle (wl:List Int) (p:List Pk) (c:Nat):Idle (robinC wl) p c 1:=
 ⟨Nat.le_refl _,fun t left w s h=>by
  simp only [robinC]at h⊢
  split at h
  ·first|rfl|(rename_i h1;rw [if_pos h1])
  ·rename_i h1
   first|rw [if_neg h1]|skip
   split at h
   ·cases h
   ·first|rfl|(rename_i h2;rw [h2]),fun t bg s h1 h2 j=>by have:=h2 0 (by omega);rw [Nat.add_zero]at this;rw [wt_all h1];exact this⟩
theorem def_idle (q:List Int) (p:List Pk) (c:Nat):Idle (defC q) p c 1:=
 ⟨Nat.le_refl _,fun t left w s h=>by
  simp only [defC]at h⊢
  split at h
  ·first|rfl|(rename_i h1;rw [if_pos h1])
  ·rename_i h1
   first|rw [if_neg h1]|skip
   split at h
   ·cases h
   ·first|rfl|(rename_i h2;rw [h2]),fun t bg s h1 h2 j=>by have:=h2 0 (by omega);rw [Nat.add_zero]at this;rw [wt_all h1];exact this⟩
theorem slot_idle (cap:Nat) (tb:List Int) (htb:1≤tb.length) (p:List Pk):Idle (slotC cap tb) p cap tb.length:=
 ⟨htb,fun _ _ _ _ _=>rfl,fun t bg s h1 h2 j=>by
  have h3:j%tb.length<tb.length:=Nat.mod_lt _ htb
  have:=h2 (j%tb.length) h3
  rw [wt_all h1]at this⊢
  have e:(t+j%tb.length)%tb.length=(t+j)%tb.length:=Nat.add_mod_mod _ _ _
  simp only [slotC]at this⊢
  rw [e,ahd_mod tb _ e]at this
  exact this⟩
end Go.Mc
