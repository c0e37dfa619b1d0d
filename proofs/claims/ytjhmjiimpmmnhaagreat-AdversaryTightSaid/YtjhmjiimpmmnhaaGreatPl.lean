/- Lemmas of this seat. Conditions: as stated. -/
set_option linter.unusedVariables false
set_option linter.unusedSimpArgs false
section
namespace Go.Cv
def Per (F:Nat→Int) (s p:Nat) (q:Int):Prop:=∀t,s≤t→F (t+p)=F t+q
theorem Per.mono {F s s' p q} (h:Per F s p q) (hs:s≤s'):Per F s' p q:=fun t ht=>h t (by omega)
theorem Per.mul {F s p q} (h:Per F s p q):∀k:Nat,Per F s (k*p) (k*q)
 |0=>fun t _=>by simp
 |k+1=>fun t ht=>by
  have h1:=Per.mul h k t ht
  have h2:=h (t+k*p) (by omega)
  rw [show t+(k+1)*p=t+k*p+p by rw [Nat.add_mul];omega,h2,h1]
  push_cast;rw [Int.add_mul];omega
theorem Per.back {F s s' n p Q q} (hn:1≤n) (h:Per F s n Q) (h':Per F s' p q):Per F s p q:=by
 intro t ht
 have h1:=h.mul s' t ht
 have h2:=h.mul s' (t+p) (by omega)
 have hle:s'≤t+s'*n:=by have:=Nat.mul_le_mul_left s' hn;omega
 have h3:=h' (t+s'*n) hle
 rw [show t+s'*n+p=t+p+s'*n by omega,h2,h1]at h3
 omega
theorem Per.uniq {F s s' p q q'} (h:Per F s p q) (h':Per F s' p q'):q=q':=by
 have h1:=h (max s s') (by omega)
 have h2:=h' (max s s') (by omega)
 omega
def Min (F:Nat→Int) (p:Nat):Prop:=∀s' p' q',1≤p'→Per F s' p' q'→p≤p'
theorem Per.dvd {F s p n q Q} (hp:1≤p) (h:Per F s p q) (hm:Min F p) (hn:Per F s n Q):p∣n:=by
 rcases Nat.eq_zero_or_pos (n%p)with h0|h0
 ·exact Nat.dvd_of_mod_eq_zero h0
 ·have hr:Per F s (n%p) (Q-(n/p:Nat)*q):=by
   intro t ht
   have h1:=hn t ht
   have h2:=h.mul (n/p) (t+n%p) (by omega)
   have h3:=Nat.div_add_mod n p
   rw [show t+n%p+n/p*p=t+n by rw [Nat.mul_comm];omega,h1]at h2
   omega
  have:=hm s (n%p) _ h0 hr
  have:=Nat.mod_lt n hp
  omega
theorem exists_min {F s n Q} (hn:1≤n) (h:Per F s n Q):∃p q,1≤p∧Per F s p q∧Min F p:=by
 have key:∀(k n:Nat) (s:Nat) (Q:Int),n≤k→1≤n→Per F s n Q→∃s' p q,1≤p∧Per F s' p q∧Min F p:=by
  intro k
  induction k with
  |zero=>intro n s Q h1 h2;omega
  |succ k ih=>
   intro n s Q hk hn h
   by_cases hm:Min F n
   ·exact⟨s,n,Q,hn,h,hm⟩
   ·simp only [Min,Classical.not_forall]at hm
    obtain⟨s',p',q',hp',hq,hlt⟩:=hm
    exact ih p' s' q' (by omega) hp' hq
 obtain⟨s',p,q,hp,hq,hm⟩:=key n n s Q (by omega) hn h
 exact⟨p,q,hp,Per.back hn h hq,hm⟩
def Fits (F:Nat→Int) (s n:Nat) (Q:Int) (p:Nat):Prop:=n%p=0∧Q*p%n=0∧∀t,s≤t→t<s+n→F (t+p)=F t+Q*p/n
theorem Fits.per {F s n Q p} (hn:1≤n) (h:Per F s n Q) (hf:Fits F s n Q p):Per F s p (Q*p/n):=by
 obtain⟨_,_,h3⟩:=hf
 intro t ht
 have hd:=Nat.div_add_mod (t-s) n
 have hl:=Nat.mod_lt (t-s) hn
 have h1:=h.mul ((t-s)/n) (s+(t-s)%n) (by omega)
 have h2:=h.mul ((t-s)/n) (s+(t-s)%n+p) (by omega)
 have h4:=h3 (s+(t-s)%n) (by omega) (by omega)
 have e:s+(t-s)%n+(t-s)/n*n=t:=by rw [Nat.mul_comm];omega
 rw [e]at h1
 rw [show s+(t-s)%n+p+(t-s)/n*n=t+p by omega]at h2
 omega
theorem fits_of {F s n Q p q} (hn:1≤n) (h:Per F s n Q) (hp:p∣n) (hq:Per F s p q):Fits F s n Q p∧Q*p/n=q:=by
 obtain⟨k,rfl⟩:=hp
 have h1:=hq.mul k
 rw [Nat.mul_comm]at h1
 have hQ:=h.uniq h1
 have e:Q*(p:Int)=q*((p*k:Nat):Int):=by rw [hQ];push_cast;ac_rfl
 have hne:((p*k:Nat):Int)≠0:=by omega
 have e2:Q*(p:Int)/((p*k:Nat):Int)=q:=by rw [e];exact Int.mul_ediv_cancel _ hne
 exact⟨⟨Nat.mul_mod_right p k,by rw [e];exact Int.mul_emod_left _ _,fun t ht _=>by rw [e2];exact hq t ht⟩,e2⟩
theorem Fits.min {F s n Q p} (hn:1≤n) (h:Per F s n Q) (hl:∀p',1≤p'→p'<p→¬Fits F s n Q p'):Min F p:=by
 obtain⟨p0,q0,h0,hq0,hm⟩:=exists_min hn h
 have hd:=hq0.dvd h0 hm h
 have hf0:=(fits_of hn h hd hq0).1
 have:p≤p0:=by
  rcases Nat.lt_or_ge p0 p with h1|h1
  ·exact absurd hf0 (hl p0 h0 h1)
  ·exact h1
 intro s' p' q' hp' hq'
 have:=hm s' p' q' hp' hq'
 omega
theorem fits_self {F s n Q} (hn:1≤n) (h:Per F s n Q):Fits F s n Q n:=(fits_of hn h (Nat.dvd_refl n) h).1
def MinS (F:Nat→Int) (s p:Nat) (q:Int):Prop:=∀s',Per F s' p q→s≤s'
theorem minS_of {F s p q} (h:s=0∨F (s-1+p)≠F (s-1)+q):MinS F s p q:=by
 intro s' hs'
 rcases Nat.lt_or_ge s' s with h1|h1
 ·rcases h with h|h
  ·omega
  ·exact absurd (hs' (s-1) (by omega)) h
 ·exact h1
theorem Per.pred {F s p q} (h:Per F s p q) (h1:F (s-1+p)=F (s-1)+q):Per F (s-1) p q:=by
 intro t ht
 rcases Nat.lt_or_ge t s with h2|h2
 ·have:t=s-1:=by omega
  subst this;exact h1
 ·exact h t h2
abbrev INF:Int:=4611686018427387904
def vals (F:Nat→Int) (n:Nat):List Int:=(List.range n).map F
theorem vals_len (F:Nat→Int) (n:Nat):(vals F n).length =n:=by simp [vals]
theorem vals_get {F:Nat→Int} {n t:Nat} (h:t<n):(vals F n).getD t 0=F t:=by simp [vals,h]
theorem vals_succ (F:Nat→Int) (n:Nat):vals F (n+1)=vals F n++[F n]:=by simp [vals,List.range_succ]
def NF (F:Nat→Int) (vs:List Int) (p:Nat) (q:Int):Prop:=∃s,1≤p∧Per F s p q∧Min F p∧MinS F s p q∧vs=vals F (s+p)
theorem NF.uniq {F vs p q vs' p' q'} (h:NF F vs p q) (h':NF F vs' p' q'):vs=vs'∧p=p'∧q=q':=by
 obtain⟨s,h2,h3,h4,h5,h6⟩:=h
 obtain⟨s',g2,g3,g4,g5,g6⟩:=h'
 have e1:=h4 s' p' q' g2 g3
 have e2:=g4 s p q h2 h3
 have:p=p':=by omega
 subst this
 have hq:=h3.uniq g3
 subst hq
 have e3:=h5 s' g3
 have e4:=g5 s h3
 have:s=s':=by omega
 subst this
 exact⟨by rw [h6,g6],rfl,rfl⟩
theorem NF.inf {F:Nat→Int} {m:Nat} (h1:∀t,m≤t→F t=INF) (h2:∀t<m,F t≠INF):NF F (vals F (m+1)) 1 0:=by
 refine⟨m,by omega,fun t ht=>by rw [h1 t ht,h1 (t+1) (by omega)];rfl,fun _ p' _ hp' _=>hp',fun s' hs'=>?_,rfl⟩
 rcases Nat.lt_or_ge s' m with h|h
 ·have:=hs' (m-1) (by omega)
  rw [show m-1+1=m by omega,h1 m (by omega)]at this
  exact absurd (by omega) (h2 (m-1) (by omega))
 ·exact h
def val (vs:List Int) (p:Nat) (q:Int) (t:Nat):Int:=
 if t<vs.length then vs.getD t 0 else
 if vs.getD (t-((t-vs.length)/p+1)*p) 0=INF then INF else vs.getD (t-((t-vs.length)/p+1)*p) 0+((t-vs.length)/p+1:Nat)*q
theorem val_lt {vs p q t} (h:t<vs.length):val vs p q t=vs.getD t 0:=by simp [val,h]
theorem val_per {vs:List Int} {p:Nat} {q:Int} (hp:1≤p) (hn:p≤vs.length) (hf:∀t,vs.length-p≤t→t<vs.length→vs.getD t 0≠INF):Per (val vs p q) (vs.length-p) p q:=by
 have idx:∀t,vs.length≤t→vs.length-p≤t-((t-vs.length)/p+1)*p∧t-((t-vs.length)/p+1)*p<vs.length∧((t-vs.length)/p+1)*p≤t:=by
  intro t ht
  have h1:=Nat.div_add_mod (t-vs.length) p
  have h2:=Nat.mod_lt (t-vs.length) hp
  have h3:((t-vs.length)/p+1)*p=p*((t-vs.length)/p)+p:=by rw [Nat.add_mul,Nat.one_mul,Nat.mul_comm]
  omega
 intro t ht
 obtain⟨i1,i2,i3⟩:=idx (t+p) (by omega)
 have hne:=hf _ i1 i2
 have e1:val vs p q (t+p)=vs.getD (t+p-((t+p-vs.length)/p+1)*p) 0+((t+p-vs.length)/p+1:Nat)*q:=by
  simp only [val];rw [if_neg (by omega),if_neg hne]
 rw [e1]
 by_cases hlt:t<vs.length
 ·have:(t+p-vs.length)/p=0:=Nat.div_eq_of_lt (by omega)
  rw [this,val_lt hlt]
  simp
 ·obtain⟨j1,j2,j3⟩:=idx t (by omega)
  have hne':=hf _ j1 j2
  have e2:val vs p q t=vs.getD (t-((t-vs.length)/p+1)*p) 0+((t-vs.length)/p+1:Nat)*q:=by
   simp only [val];rw [if_neg hlt,if_neg hne']
  have e3:(t+p-vs.length)/p=(t-vs.length)/p+1:=by
   rw [show t+p-vs.length=t-vs.length+p by omega,Nat.add_div_right _ hp]
  rw [e2,e3]
  have e4:t+p-((t-vs.length)/p+1+1)*p=t-((t-vs.length)/p+1)*p:=by
   rw [Nat.add_mul ((t-vs.length)/p+1) 1 p];omega
  rw [e4]
  generalize (t-vs.length)/p=k
  have:((k+1+1:Nat):Int)*q=((k+1:Nat):Int)*q+q:=by push_cast;rw [Int.add_mul,Int.one_mul]
  omega
def ValidP (vs:List Int) (p i:Int):Prop:=
 1≤vs.length∧vs.length≤400∧1≤p∧p≤120∧p≤vs.length∧0≤i∧i≤1073741824∧
 (∀j<vs.length,vs.getD j 0=4611686018427387904∨0≤vs.getD j 0∧vs.getD j 0≤1073741824)∧
 (∀j,j+1<vs.length→vs.getD j 0≤vs.getD (j+1) 0)∧
 (vs.getD (vs.length-1) 0=4611686018427387904→p=1∧i=0)∧
 (vs.getD (vs.length-1) 0≠4611686018427387904→vs.getD (vs.length-p.toNat) 0+i≥vs.getD (vs.length-1) 0)
def LeastP (vs:List Int) (P:Nat) (Q:Int) (vs':List Int) (p':Nat) (q':Int):Prop:=
 (∃m,m<vs.length∧vs.getD m 0=INF∧(∀k<m,vs.getD k 0≠INF)∧vs'=vs.take (m+1)∧p'=1∧q'=0)∨
 ((∀k<vs.length,vs.getD k 0≠INF)∧NF (val vs P Q) vs' p' q')
structure VF (vs:List Int) (p:Nat) (q:Int):Prop where
 n1:1≤vs.length
 n2:vs.length≤400
 p1:1≤p
 p2:p≤120
 pn:p≤vs.length
 q0:0≤q
 q1:q≤1073741824
 v:∀j<vs.length,vs.getD j 0=INF∨0≤vs.getD j 0∧vs.getD j 0≤1073741824
 mono:∀j k,j≤k→k<vs.length→vs.getD j 0≤vs.getD k 0
 inf:vs.getD (vs.length-1) 0=INF→p=1∧q=0
 fin:vs.getD (vs.length-1) 0≠INF→vs.getD (vs.length-p) 0+q≥vs.getD (vs.length-1) 0
theorem mono_of {vs : List Int} (h : ∀ j, j + 1 < vs.length → vs.getD j 0 ≤ vs.getD (j + 1) 0) : ∀ j k, j ≤ k → k < vs.length → vs.getD j 0 ≤ vs.getD k 0 := by
  intro j k hjk
  induction k with
  | zero => intro _; have : j = 0 := by omega
            subst this; exact Int.le_refl _
  | succ k ih =>
    intro hk
    by_cases e : j = k + 1
    · subst e; exact Int.le_refl _
    · have := ih (by omega) (by omega)
      have := h k hk
      omega
theorem ValidP.vf {vs p q} (h:ValidP vs p q):∃p':Nat,p=p'∧VF vs p' q:=by
 obtain⟨h1,h2,h3,h4,h5,h6,h7,h8,h9,h10,h11⟩:=h
 refine⟨p.toNat,by omega,h1,h2,by omega,by omega,by omega,h6,h7,h8,mono_of h9,fun e=>?_,fun e=>h11 e⟩
 have:=h10 e
 omega
theorem VF.noinf {vs p q} (h:VF vs p q) (hf:vs.getD (vs.length-1) 0≠INF):∀k<vs.length,vs.getD k 0≠INF:=by
 intro k hk e
 have h1:=h.mono k (vs.length-1) (by omega) (by omega)
 have:=h.v (vs.length-1) (by have:=h.n1;omega)
 rw [e]at h1
 simp only [INF]at*
 omega
theorem VF.val_inf {vs p q} (h:VF vs p q) (hf:vs.getD (vs.length-1) 0=INF) {m:Nat} (hm:vs.getD m 0=INF):∀t,m≤t→val vs p q t=INF:=by
 intro t ht
 obtain⟨rfl,rfl⟩:=h.inf hf
 by_cases hlt:t<vs.length
 ·rw [val_lt hlt]
  have h1:=h.mono m t ht hlt
  have:=h.v t hlt
  rw [hm]at h1
  simp only [INF]at*
  omega
 ·simp only [val]
  rw [if_neg hlt]
  have:t-((t-vs.length)/1+1)*1=vs.length-1:=by have:=h.n1;omega
  rw [this,if_pos hf]
theorem LeastP.nf {vs p q vs' p' q'} (h:VF vs p q) (hl:LeastP vs p q vs' p' q'):NF (val vs p q) vs' p' q':=by
 rcases hl with⟨m,h1,h2,h3,rfl,rfl,rfl⟩|⟨_,h1⟩
 ·have hf:vs.getD (vs.length-1) 0=INF:=by
   have h4:=h.mono m (vs.length-1) (by omega) (by omega)
   have:=h.v (vs.length-1) (by omega)
   rw [h2]at h4
   simp only [INF]at*
   omega
  have e:vs.take (m+1)=vals (val vs p q) (m+1):=by
   apply List.ext_getElem
   ·rw [vals_len,List.length_take];omega
   ·intro i h5 h6
    rw [vals_len]at h6
    simp only [vals,List.getElem_map,List.getElem_range,List.getElem_take]
    rw [val_lt (by omega),List.getD_eq_getElem?_getD,List.getElem?_eq_getElem (by omega)]
    rfl
  rw [e]
  exact NF.inf (h.val_inf hf h2) (fun t ht=>by rw [val_lt (by omega)];exact h3 t ht)
 ·exact h1
def MadeP (vs:List Int) (P:Nat) (Q:Int) (vs':List Int) (p' q' e:Int):Prop:=
 ∃ws p1 q1,LeastP vs P Q ws p1 q1∧((ValidP ws p1 q1∧vs'=ws∧p'=p1∧q'=q1∧e=0)∨(¬ValidP ws p1 q1∧vs'=[]∧p'=0∧q'=0∧e=3))
def NormP (vs:List Int) (p q:Int) (vs':List Int) (p' q' e:Int):Prop:=
 (e=0∧∃p0 p1:Nat,p=p0∧p'=p1∧VF vs p0 q∧NF (val vs p0 q) vs' p1 q')∨(¬ValidP vs p q∧vs'=[]∧p'=0∧q'=0∧e=1)
end Go.Cv
end
section
namespace Go.Cv
def Mono (F:Nat→Int):Prop:=∀t,F t≤F (t+1)
theorem Mono.le {F} (h : Mono F) : ∀ {s t : Nat}, s ≤ t → F s ≤ F t := by
  intro s t hst
  induction t with
  | zero => have : s = 0 := by omega
            subst this; exact Int.le_refl _
  | succ t ih =>
    by_cases e : s = t + 1
    · subst e; exact Int.le_refl _
    · exact Int.le_trans (ih (by omega)) (h t)
theorem VF.per {vs p q} (h:VF vs p q):Per (val vs p q) (vs.length-p) p q:=by
 by_cases hf:vs.getD (vs.length-1) 0=INF
 ·obtain⟨rfl,rfl⟩:=h.inf hf
  have hi:=h.val_inf hf hf
  intro t ht
  rw [hi t (by omega),hi (t+1) (by omega)];rfl
 ·exact val_per h.p1 h.pn (fun t _ ht=>h.noinf hf t ht)
theorem VF.mono' {vs p q} (h:VF vs p q):Mono (val vs p q):=by
 have hper:=h.per
 have n1:=h.n1
 have p1:=h.p1
 have pn:=h.pn
 intro t
 induction t using Nat.strongRecOn with
 |_ t ih=>
  by_cases h1:t+1<vs.length
  ·rw [val_lt (by omega),val_lt h1];exact h.mono t (t+1) (by omega) h1
  ·by_cases h2:t+1=vs.length
   ·have e:=hper (vs.length-p) (by omega)
    rw [show vs.length-p+p=t+1 by omega]at e
    rw [e,val_lt (by omega),val_lt (by omega)]
    rw [show t=vs.length-1 by omega]
    by_cases hf:vs.getD (vs.length-1) 0=INF
    ·obtain⟨rfl,rfl⟩:=h.inf hf
     omega
    ·have:=h.fin hf;omega
   ·have e1:=hper (t-p) (by omega)
    have e2:=hper (t+1-p) (by omega)
    have:=ih (t-p) (by omega)
    rw [show t-p+p=t by omega]at e1
    rw [show t+1-p+p=t+1 by omega]at e2
    rw [show t-p+1=t+1-p by omega]at this
    omega
theorem VF.nonneg {vs p q} (h:VF vs p q) (t:Nat):0≤val vs p q t:=by
 have h0:=h.mono'.le (Nat.zero_le t)
 have:0≤val vs p q 0:=by
  rw [val_lt (by have:=h.n1;omega)]
  have:=h.v 0 (by have:=h.n1;omega)
  simp only [INF]at this;omega
 omega
theorem NF.val {F vs p q} (h:NF F vs p q) (hi:q≠0→∀t<vs.length,F t≠INF):∀t,val vs p q t=F t:=by
 obtain⟨s,p1,hper,hmin,hms,rfl⟩:=h
 intro t
 rw [vals_len]at hi
 by_cases hlt:t<s+p
 ·rw [val_lt (by rw [vals_len];exact hlt),vals_get hlt]
 ·simp only [Cv.val]
  rw [if_neg (by rw [vals_len];exact hlt),vals_len]
  have hd:=Nat.div_add_mod (t-(s+p)) p
  have hm:=Nat.mod_lt (t-(s+p)) p1
  have hk:((t-(s+p))/p+1)*p=p*((t-(s+p))/p)+p:=by rw [Nat.add_mul,Nat.one_mul,Nat.mul_comm]
  generalize (t-(s+p))/p+1=k at*
  have hidx:t-k*p<s+p∧s≤t-k*p∧k*p≤t:=by omega
  rw [vals_get hidx.1]
  have e:=hper.mul k (t-k*p) hidx.2.1
  rw [show t-k*p+k*p=t by omega]at e
  rw [e]
  split
  ·rename_i hINF
   by_cases hq:q=0
   ·subst hq;rw [hINF];simp
   ·exact absurd hINF (hi hq _ hidx.1)
  ·rfl
theorem NF.vf {vs p q vs' p' q'} (h:VF vs p q) (hn:NF (Cv.val vs p q) vs' p' q'):VF vs' p' q'∧∀t,Cv.val vs' p' q' t=Cv.val vs p q t:=by
 have hper:=h.per
 have hmo:=h.mono'
 have n1:=h.n1
 have p1:=h.p1
 have pn:=h.pn
 have hn0:=hn
 obtain⟨s,g1,g2,g3,g4,g5⟩:=hn
 have hpp:p'≤p:=g3 _ p q p1 hper
 have hb:=Per.back p1 hper g2
 have hs:s≤vs.length-p:=g4 _ hb
 have hlen:vs'.length=s+p':=by rw [g5,vals_len]
 have hq0:0≤q':=by have:=g2 s (Nat.le_refl _);have:=hmo.le (show s≤s+p' by omega);omega
 have hdvd:=Per.dvd g1 hb g3 hper
 obtain⟨k,hk⟩:=hdvd
 have hqk:q=k*q':=by
  have:=hb.mul k
  rw [show k*p'=p by rw [hk,Nat.mul_comm]]at this
  exact hper.uniq this
 have hk1:1≤k:=by
  rcases Nat.eq_zero_or_pos k with h0|h0
  ·subst h0;omega
  ·exact h0
 have hqq:q'≤q:=by
  rw [hqk]
  have:1*q'≤(k:Int)*q':=Int.mul_le_mul_of_nonneg_right (by omega) hq0
  omega
 have hget:∀j,j<vs'.length→vs'.getD j 0=vs.getD j 0:=by
  intro j hj
  rw [g5,vals_get (by omega),val_lt (by omega)]
 have hi:q'≠0→∀t<vs'.length,Cv.val vs p q t≠INF:=by
  intro hq t ht
  rw [val_lt (by omega)]
  apply h.noinf _ t (by omega)
  intro hinf
  have:=h.inf hinf
  apply hq
  have e:=this.2
  rw [hqk]at e
  have h2:1*q'≤(k:Int)*q':=Int.mul_le_mul_of_nonneg_right (by omega) hq0
  omega
 refine⟨⟨by omega,by have:=h.n2;omega,g1,by have:=h.p2;omega,by omega,hq0,by have:=h.q1;omega,?_,?_,?_,?_⟩,hn0.val hi⟩
 ·intro j hj;rw [hget j hj];exact h.v j (by omega)
 ·intro j k hjk hk;rw [hget j (by omega),hget k hk];exact h.mono j k hjk (by omega)
 ·intro he
  rw [hget _ (by omega)]at he
  have hlast:vs.getD (vs.length-1) 0=INF:=by
   have h4:=h.mono (vs'.length-1) (vs.length-1) (by omega) (by omega)
   have:=h.v (vs.length-1) (by omega)
   rw [he]at h4
   simp only [INF]at*
   omega
  obtain⟨rfl,rfl⟩:=h.inf hlast
  exact⟨by omega,by omega⟩
 ·intro he
  have e:=g2 s (Nat.le_refl _)
  have hle:=hmo.le (show s+p'-1≤s+p' by omega)
  rw [hget _ (by omega),hget _ (by omega),hlen,show s+p'-p'=s by omega,←val_lt (vs:=vs) (p:=p) (q:=q) (t:=s) (by omega),←val_lt (vs:=vs) (p:=p) (q:=q) (t:=s+p'-1) (by omega)]
  omega
def MkP (F:Nat→Int) (x:List Int×Int×Int×Int):Prop:=
 (∃(vs:List Int) (p:Nat) (q:Int),NF F vs p q∧VF vs p q∧x=(vs,(p:Int),q,0))∨((∀(vs:List Int) (p:Nat) (q:Int),NF F vs p q→¬VF vs p q)∧x=([],0,0,3))
theorem MkP.uniq {F x y} (h:MkP F x) (h':MkP F y):x=y:=by
 rcases h with⟨vs,p,q,h1,h2,rfl⟩|⟨h1,rfl⟩
 ·rcases h' with⟨vs',p',q',h1',h2',rfl⟩|⟨h1',rfl⟩
  ·obtain⟨rfl,rfl,rfl⟩:=h1.uniq h1';rfl
  ·exact absurd h2 (h1' _ _ _ h1)
 ·rcases h' with⟨vs',p',q',h1',h2',rfl⟩|⟨h1',rfl⟩
  ·exact absurd h2' (h1 _ _ _ h1')
  ·rfl
theorem VF.valid {vs:List Int} {p:Nat} {q:Int} (h:VF vs p q):ValidP vs p q:=by
 have n1:=h.n1;have n2:=h.n2;have p1:=h.p1;have p2:=h.p2;have pn:=h.pn
 refine⟨by omega,by omega,by omega,by omega,by omega,h.q0,h.q1,h.v,fun j hj=>h.mono j (j+1) (by omega) hj,fun e=>?_,fun e=>?_⟩
 ·have:=h.inf e;omega
 ·rw [Int.toNat_natCast];exact h.fin e
theorem val_of_per {F:Nat→Int} {vs:List Int} {P:Nat} {Q:Int} (hP:1≤P) (hn:P≤vs.length) (hv:∀t<vs.length,F t=vs.getD t 0) (hf:∀k<vs.length,vs.getD k 0≠INF) (hper:Per F (vs.length-P) P Q):∀t,val vs P Q t=F t:=by
 have hp2:=val_per (q:=Q) hP hn (fun t _ ht=>hf t ht)
 intro t
 induction t using Nat.strongRecOn with
 |_ t ih=>
  by_cases h1:t<vs.length
  ·rw [val_lt h1,hv t h1]
  ·have e1:=hp2 (t-P) (by omega)
   have e2:=hper (t-P) (by omega)
   rw [show t-P+P=t by omega]at e1 e2
   rw [e1,e2,ih (t-P) (by omega)]
theorem madeP_mk {F:Nat→Int} {vs:List Int} {P:Nat} {Q:Int} {x:List Int×Int×Int×Int} (hP:1≤P) (hn:P≤vs.length) (hv:∀t<vs.length,F t=vs.getD t 0)
  (hinf:∀m<vs.length,F m=INF→∀t,m≤t→F t=INF) (hper:(∀t<vs.length,F t≠INF)→Per F (vs.length-P) P Q) (h:MadeP vs P Q x.1 x.2.1 x.2.2.1 x.2.2.2):MkP F x:=by
 obtain⟨ws,p1,q1,hL,hx⟩:=h
 have hnf:NF F ws p1 q1:=by
  rcases hL with⟨m,h1,h2,h3,rfl,rfl,rfl⟩|⟨h1,h2⟩
  ·have e:vs.take (m+1)=vals F (m+1):=by
    apply List.ext_getElem
    ·rw [vals_len,List.length_take];omega
    ·intro i h5 h6
     rw [vals_len]at h6
     simp only [vals,List.getElem_map,List.getElem_range,List.getElem_take]
     rw [hv i (by omega),List.getD_eq_getElem?_getD,List.getElem?_eq_getElem (by omega)]
     rfl
   rw [e]
   exact NF.inf (hinf m h1 (by rw [hv m h1];exact h2)) (fun t ht=>by rw [hv t (by omega)];exact h3 t ht)
  ·have:val vs P Q=F:=funext (val_of_per hP hn hv h1 (hper (fun t ht=>by rw [hv t ht];exact h1 t ht)))
   rw [←this];exact h2
 obtain⟨x1,x2,x3,x4⟩:=x
 rcases hx with⟨hv,rfl,rfl,rfl,rfl⟩|⟨hv,rfl,rfl,rfl,rfl⟩
 ·obtain⟨p',e,hvf⟩:=hv.vf
  have:p1=p':=by omega
  subst this
  exact .inl ⟨_,_,_,hnf,hvf,rfl⟩
 ·refine .inr ⟨fun vs' p' q' hnf' hvf=>?_,rfl⟩
  obtain⟨rfl,rfl,rfl⟩:=hnf.uniq hnf'
  exact hv hvf.valid
theorem VF.sound {vs p q F} (h:VF vs p q) (hn:NF F vs p q):∀t,val vs p q t=F t:=by
 refine hn.val (fun hq t ht e=>?_)
 obtain⟨s,_,_,_,_,rfl⟩:=hn
 rw [vals_len]at ht
 rw [←vals_get (F:=F) ht]at e
 by_cases hf:(vals F (s+p)).getD ((vals F (s+p)).length -1) 0=INF
 ·exact hq (h.inf hf).2
 ·exact h.noinf hf t (by rw [vals_len];exact ht) e
end Go.Cv
end
section
namespace Go.Cv
abbrev C3:=List Int×Nat×Int
def cv (a:C3) (t:Nat):Int:=val a.1 a.2.1 a.2.2 t
abbrev VC (a:C3):Prop:=VF a.1 a.2.1 a.2.2
def infAt (vs:List Int) (t:Nat):Prop:=vs.getD (min t (vs.length-1)) 0=INF
instance (vs:List Int) (t:Nat):Decidable (infAt vs t):=inferInstanceAs (Decidable (_=_))
def FinC (a:C3):Prop:=a.1.getD (a.1.length-1) 0≠INF
instance (a:C3):Decidable (FinC a):=inferInstanceAs (Decidable (¬_=_))
theorem VF.val_le {vs p q} (h:VF vs p q) (hf:vs.getD (vs.length-1) 0≠INF) (t:Nat):val vs p q t≤1073741824+(t+1:Nat)*q:=by
 have n1:=h.n1
 have p1:=h.p1
 have pn:=h.pn
 have q0:=h.q0
 have hv:∀j,j<vs.length→vs.getD j 0≤1073741824:=by
  intro j hj
  have h1:=h.v j hj
  have h2:=h.noinf hf j hj
  simp only [INF]at*;omega
 by_cases hlt:t<vs.length
 ·rw [val_lt hlt]
  have h1:=hv t hlt
  have:(0:Int)≤(t+1:Nat)*q:=Int.mul_nonneg (by omega) q0
  omega
 ·simp only [val]
  rw [if_neg hlt]
  have hd:=Nat.div_le_self (t-vs.length) p
  have h1:=Nat.div_add_mod (t-vs.length) p
  have h2:=Nat.mod_lt (t-vs.length) p1
  have h3:((t-vs.length)/p+1)*p=p*((t-vs.length)/p)+p:=by rw [Nat.add_mul,Nat.one_mul,Nat.mul_comm]
  have hidx:t-((t-vs.length)/p+1)*p<vs.length:=by omega
  rw [if_neg (h.noinf hf _ hidx)]
  have h4:=hv _ hidx
  have h5:(((t-vs.length)/p+1:Nat):Int)*q≤(t+1:Nat)*q:=Int.mul_le_mul_of_nonneg_right (by omega) q0
  omega
theorem VF.inf_iff {vs p q} (h:VF vs p q) {t:Nat} (ht:t≤1048576):val vs p q t=INF↔infAt vs t:=by
 have n1:=h.n1
 unfold infAt
 by_cases hlt:t<vs.length
 ·rw [val_lt hlt,Nat.min_eq_left (by omega)]
 ·rw [Nat.min_eq_right (by omega)]
  constructor
  ·intro he
   apply Classical.byContradiction
   intro hf
   have h1:=h.val_le hf t
   have h2:((t+1:Nat):Int)*q≤1048577*1073741824:=Int.mul_le_mul (by omega) h.q1 h.q0 (by omega)
   rw [he]at h1
   simp only [INF]at h1
   omega
  ·intro he
   exact h.val_inf he he t (by omega)
theorem VF.infAt_mono {vs p q} (h:VF vs p q) {s t:Nat} (hst:s≤t) (hs:infAt vs s):infAt vs t:=by
 have n1:=h.n1
 unfold infAt at*
 have h1:=h.mono (min s (vs.length-1)) (min t (vs.length-1)) (by omega) (by omega)
 have h2:=h.v (min t (vs.length-1)) (by omega)
 rw [hs]at h1
 simp only [INF]at*
 omega
theorem FinC.not {a:C3} (h:VC a) (hf:FinC a) (t:Nat):¬infAt a.1 t:=by
 have n1:=h.n1
 exact h.noinf hf _ (by omega)
theorem inf_late {a:C3} (hf:¬FinC a) {t:Nat} (ht:a.1.length-1≤t):infAt a.1 t:=by
 unfold FinC at hf
 unfold infAt
 rw [Nat.min_eq_right ht]
 exact Classical.not_not.1 hf
def frm (a b:C3):Nat:=max (a.1.length-a.2.1) (b.1.length-b.2.1)
def com (a b:C3):Nat:=Nat.lcm a.2.1 b.2.1
theorem com_pos {a b:C3} (ha:VC a) (hb:VC b):1≤com a b:=Nat.lcm_pos ha.p1 hb.p1
theorem cv_com_l {a b:C3} (ha:VC a) {t:Nat} (ht:frm a b≤t):cv a (t+com a b)=cv a t+a.2.2*((com a b/a.2.1:Nat):Int):=by
 obtain⟨k,hk⟩:=Nat.dvd_lcm_left a.2.1 b.2.1
 have h1:=ha.per.mul k t (by unfold frm at ht;omega)
 have e:com a b=k*a.2.1:=by unfold com;rw [hk,Nat.mul_comm]
 have e2:com a b/a.2.1=k:=by rw [e];exact Nat.mul_div_cancel k ha.p1
 unfold cv
 rw [e2,e,h1,Int.mul_comm]
theorem cv_com_r {a b:C3} (hb:VC b) {t:Nat} (ht:frm a b≤t):cv b (t+com a b)=cv b t+b.2.2*((com a b/b.2.1:Nat):Int):=by
 obtain⟨k,hk⟩:=Nat.dvd_lcm_right a.2.1 b.2.1
 have h1:=hb.per.mul k t (by unfold frm at ht;omega)
 have e:com a b=k*b.2.1:=by unfold com;rw [hk,Nat.mul_comm]
 have e2:com a b/b.2.1=k:=by rw [e];exact Nat.mul_div_cancel k hb.p1
 unfold cv
 rw [e2,e,h1,Int.mul_comm]
theorem frm_le {a b:C3} (ha:VC a) (hb:VC b):frm a b≤399:=by
 have:=ha.n2;have:=ha.p1;have:=hb.n2;have:=hb.p1
 unfold frm;omega
theorem cv_nonneg {a:C3} (ha:VC a) (t:Nat):0≤cv a t:=ha.nonneg t
theorem cv_small {a:C3} (ha:VC a) {t:Nat} (ht:t≤1048576) (hi:¬infAt a.1 t):cv a t≤2000000000000000:=by
 have n1:=ha.n1
 by_cases hf:FinC a
 ·have h1:=ha.val_le hf t
  have h2:((t+1:Nat):Int)*a.2.2≤1048577*1073741824:=Int.mul_le_mul (by omega) ha.q1 ha.q0 (by omega)
  unfold cv;omega
 ·have hlt:t<a.1.length-1:=by
   rcases Nat.lt_or_ge t (a.1.length-1)with h|h
   ·exact h
   ·exact absurd (inf_late hf h) hi
  unfold cv
  rw [val_lt (by omega)]
  have h1:=ha.v t (by omega)
  unfold infAt at hi
  rw [Nat.min_eq_left (by omega)]at hi
  simp only [INF]at*
  omega
end Go.Cv
end
section
namespace Go.Cv
def win (f g:C3):Nat:=max f.1.length g.1.length
def pls (a b:C3) (t:Nat):Int:=if infAt a.1 t∨infAt b.1 t then INF else cv a t+cv b t
theorem pls_nonneg {a b:C3} (ha:VC a) (hb:VC b) (t:Nat):0≤pls a b t:=by
 have:=cv_nonneg ha t
 have:=cv_nonneg hb t
 unfold pls;split
 ·simp [INF]
 ·omega
theorem pls_le {a b:C3} (ha:VC a) (hb:VC b) {t:Nat} (ht:t≤1048576):pls a b t≤INF:=by
 unfold pls;split
 ·exact Int.le_refl _
 ·rename_i h
  have h1:=cv_small ha ht (fun h'=>h (.inl h'))
  have h2:=cv_small hb ht (fun h'=>h (.inr h'))
  simp only [INF];omega
theorem pls_inf {a b:C3} (ha:VC a) (hb:VC b) {t:Nat} (ht:t≤1048576):pls a b t=INF↔infAt a.1 t∨infAt b.1 t:=by
 constructor
 ·intro h
  apply Classical.byContradiction
  intro hn
  have h1:=cv_small ha ht (fun h'=>hn (.inl h'))
  have h2:=cv_small hb ht (fun h'=>hn (.inr h'))
  unfold pls at h
  rw [if_neg hn]at h
  simp only [INF]at h;omega
 ·intro h;unfold pls;rw [if_pos h]
theorem pls_inf_late {a b:C3} (ha:VC a) (hb:VC b) {m:Nat} (hm:m≤1048576) (h:pls a b m=INF):∀t,m≤t→pls a b t=INF:=by
 intro t ht
 have h1:=(pls_inf ha hb hm).1 h
 unfold pls
 rw [if_pos]
 rcases h1 with h1|h1
 ·exact .inl (ha.infAt_mono ht h1)
 ·exact .inr (hb.infAt_mono ht h1)
def sgn (a b:C3):Int:=a.2.2*((com a b/a.2.1:Nat):Int)+b.2.2*((com a b/b.2.1:Nat):Int)
theorem pls_per {a b:C3} (ha:VC a) (hb:VC b) (h:FinC a∧FinC b):Per (pls a b) (frm a b) (com a b) (sgn a b):=by
 intro t ht
 unfold pls
 rw [if_neg (fun h'=>h'.elim (h.1.not ha _) (h.2.not hb _)),if_neg (fun h'=>h'.elim (h.1.not ha _) (h.2.not hb _)),cv_com_l ha ht,cv_com_r hb ht]
 unfold sgn;omega
theorem pls_late {a b:C3} (h:¬(FinC a∧FinC b)) {t:Nat} (ht:win a b≤t):pls a b t=INF:=by
 unfold pls
 rw [if_pos]
 unfold win at ht
 by_cases fa:FinC a
 ·exact .inr (inf_late (fun fb=>h ⟨fa,fb⟩) (by omega))
 ·exact .inl (inf_late fa (by omega))
theorem VF.cvle {a:C3} (ha:VC a) {s t:Nat} (h:s≤t):cv a s≤cv a t:=ha.mono'.le h
theorem mk_read {F:Nat→Int} {x:List Int×Int×Int×Int} (h:MkP F x) (he:x.2.2.2=0):∃c:C3,VC c∧NF F c.1 c.2.1 c.2.2∧x=(c.1,(c.2.1:Int),c.2.2,0)∧∀t,cv c t=F t:=by
 rcases h with⟨vs,p,q,h1,h2,rfl⟩|⟨_,rfl⟩
 ·exact⟨(vs,p,q),h2,h1,rfl,h2.sound h1⟩
 ·simp at he
theorem mk_self {F:Nat→Int} {c:C3} (hc:VC c) (hn:NF F c.1 c.2.1 c.2.2):MkP F (c.1,(c.2.1:Int),c.2.2,0):= .inl ⟨_,_,_,hn,hc,rfl⟩
end Go.Cv
end
section
namespace Go.Cv
theorem mono_dec {vs:List Int} (h:∀j<vs.length,j+1<vs.length→vs.getD j 0≤vs.getD (j+1) 0):∀j k,j≤k→k<vs.length→vs.getD j 0≤vs.getD k 0:=mono_of (fun j hj=>h j (by omega) hj)
theorem vf_of_dec {vs:List Int} {p:Nat} {q:Int} (h:ValidP vs p q):VF vs p q:=by
 obtain⟨p',e,hv⟩:=h.vf
 have:p=p':=by omega
 subst this;exact hv
end Go.Cv
end
section
namespace Go.Cv
def exZ:C3:=([0],1,0)
theorem exZ_v:VC exZ:=⟨by decide,by decide,by decide,by decide,by decide,by decide,by decide,by decide,mono_dec (by decide),fun h=>by revert h;decide,fun _=>by decide⟩
theorem exZ_nf:NF (fun _=>0) exZ.1 exZ.2.1 exZ.2.2:=⟨0,by decide,fun t _=>rfl,fun s' p' q' h _=>h,fun s' _=>Nat.zero_le _,rfl⟩
theorem mk_zero {x:List Int×Int×Int×Int} (h:MkP (fun _=>0) x):x=([0],1,0,0):=h.uniq (mk_self exZ_v exZ_nf)
end Go.Cv
end
section
namespace Go.Np
structure Ln where
 k:Int
 c:Int
 n:Int
 w:List Int
 s:List Int
structure Fl where
 nm:ByteArray
 rt:List Int
 cl:Int
 lo:Int
 hi:Int
 v:List Int
 p:Int
 q:Int
structure Nt where
 nm:List ByteArray
 ln:List Ln
 fl:List Fl
abbrev ln0:Ln:=⟨0,0,0,[],[]⟩
abbrev fl0:Fl:=⟨ByteArray.empty,[],0,0,0,[],0,0⟩
abbrev bs0:ByteArray:=ByteArray.empty
def bt (s:ByteArray) (i:Nat):Int:=((s[i]?).getD 0).toNat
def okC (c:Int):Prop:=c=45∨(48≤c∧c≤57)∨(97≤c∧c≤122)
def WordP (s:ByteArray):Prop:=1≤s.size∧s.size≤12∧(97≤bt s 0∧bt s 0≤122)∧∀i,i<s.size→okC (bt s i)
instance {c:Int}:Decidable (okC c):=by unfold okC;infer_instance
instance {s:ByteArray}:Decidable (WordP s):=by unfold WordP;infer_instance
def inR (l:List Int) (a b:Int):Prop:=∀x∈l,a≤x∧x≤b
instance {l:List Int} {a b:Int}:Decidable (inR l a b):=by unfold inR;infer_instance
def lsErr (l:Ln):Int:=
 if l.k=3∧¬((l.w.length:Int)=l.n∧inR l.w 1 20)∨l.k=4∧¬((l.w.length:Int)=l.n∧inR l.w 1 6000)∨l.k=5∧¬(1≤l.s.length∧l.s.length≤40∧inR l.s (-1) (l.n-1))then 2
 else if(l.k≠3∧l.k≠4∧l.w.length≠0)∨(l.k≠5∧l.s.length≠0)then 6 else 0
def lnErr (l:Ln):Int:=
 if l.k<1∨5<l.k then 9
 else if l.c<1∨4000<l.c∨l.n<1∨6<l.n then 2
 else lsErr l
open Classical in
noncomputable def nmErr (met:List ByteArray) (s:ByteArray):Int:=if¬WordP s then 4 else if s∈met then 60 else 0
def firstE (f:Nat→Int):Nat→Int
 |0=>0
 |m+1=>if firstE f m≠0 then firstE f m else f m
theorem firstE_all {f:Nat→Int}:∀{m:Nat},(∀i<m,f i=0)→firstE f m=0
 |0,_=>rfl
 |m+1,h=>by
  simp only [firstE]
  rw [firstE_all (fun i hi=>h i (by omega)),if_neg (by simp)]
  exact h m (by omega)
theorem firstE_ge {f : Nat → Int} {i : Nat} : ∀ {m : Nat}, i ≤ m → firstE f i ≠ 0 → firstE f m = firstE f i
  | 0, h, _ => by have : i = 0 := by omega
                  subst this; rfl
  | m + 1, h, hn => by
    by_cases e : i = m + 1
    · subst e; rfl
    · have := firstE_ge (m := m) (by omega) hn
      simp only [firstE]
      rw [this, if_pos hn]
theorem firstE_at {f:Nat→Int} {i m:Nat} (hi:i<m) (h:∀j<i,f j=0) (hn:f i≠0):firstE f m=f i:=by
 have e:firstE f (i+1)=f i:=by simp only [firstE];rw [firstE_all h,if_neg (by simp)]
 rw [firstE_ge (i:=i+1) (by omega) (by rw [e];exact hn),e]
theorem firstE_zero {f:Nat→Int} {m:Nat} (h:firstE f m=0):∀i<m,f i=0:=by
 intro i hi
 induction i using Nat.strongRecOn with
 |ind i ih=>
  by_cases hn:f i=0
  ·exact hn
  ·have:=firstE_at hi (fun j hj=>ih j hj (by omega)) hn
   rw [h]at this;exact absurd this.symm hn
noncomputable def lineE (n:Nt) (i:Nat):Int:=if nmErr (n.nm.take i) (n.nm.getD i bs0)≠0 then nmErr (n.nm.take i) (n.nm.getD i bs0)else lnErr (n.ln.getD i ln0)
def hopE (ls:List Ln) (f:Fl) (k:Nat):Int:=
 if f.rt.getD k 0<0∨(ls.length:Int)≤f.rt.getD k 0 then 2
 else if f.rt.getD k 0∈f.rt.take k then 60
 else if f.cl<0∨(ls.getD (f.rt.getD k 0).toNat ln0).n ≤f.cl then 2 else 0
def routeE (ls:List Ln) (f:Fl):Int:=if f.rt.length=0 then 5 else if 4<f.rt.length then 3 else firstE (hopE ls f) f.rt.length
def trafE (V N:Prop) [Decidable V] [Decidable N] (f:Fl):Int:=
 if f.lo<1∨f.hi<f.lo∨1500<f.hi then 2 else if¬V then 1 else if f.v.getD 0 0≠0 then 6 else if¬N then 2 else 0
def hop (n:Nt) (f l:Int):Int:=
 if f<0∨(n.fl.length:Int)≤f then-1
 else if l∈(n.fl.getD f.toNat fl0).rt then((n.fl.getD f.toNat fl0).rt.idxOf l:Nat)else-1
def usr (n:Nt) (l:Int):Nat→List Int
 |0=>[]
 |i+1=>if 0≤hop n i l then usr n l i++[(i:Int)]else usr n l i
def users (n:Nt) (l:Int):List Int:=usr n l n.fl.length
theorem usr_len {n:Nt} {l:Int}:∀{i:Nat},(usr n l i).length ≤i
 |0=>by simp [usr]
 |i+1=>by
  have:=usr_len (n:=n) (l:=l) (i:=i)
  simp only [usr];split<;>simp<;>omega
theorem mem_usr {n:Nt} {l x:Int}:∀{i:Nat},x∈usr n l i↔∃j:Nat,j<i∧x=j∧0≤hop n j l
 |0=>by simp [usr]
 |i+1=>by
  have ih:=mem_usr (n:=n) (l:=l) (x:=x) (i:=i)
  simp only [usr]
  split
  ·rename_i h
   rw [List.mem_append,ih,List.mem_singleton]
   constructor
   ·rintro(⟨j,h1,h2,h3⟩|h1)
    ·exact⟨j,by omega,h2,h3⟩
    ·exact⟨i,by omega,h1,h⟩
   ·rintro⟨j,h1,h2,h3⟩
    by_cases e:j=i
    ·subst e;exact .inr h2
    ·exact .inl ⟨j,by omega,h2,h3⟩
  ·rename_i h
   rw [ih]
   constructor
   ·rintro⟨j,h1,h2,h3⟩;exact⟨j,by omega,h2,h3⟩
   ·rintro⟨j,h1,h2,h3⟩
    by_cases e:j=i
    ·subst e;exact absurd h3 h
    ·exact⟨j,by omega,h2,h3⟩
theorem users_bd {n:Nt} {l x:Int} (h:x∈users n l):0≤x∧x<n.fl.length:=by
 obtain⟨j,h1,h2,_⟩:=mem_usr.1 h;omega
def mbr (n:Nt) (c:Int):List Int→List Int
 |[]=>[]
 |x::r=>if(n.fl.getD x.toNat fl0).cl =c then x::mbr n c r else mbr n c r
def members (n:Nt) (l c:Int):List Int:=mbr n c (users n l)
theorem mbr_append {n:Nt} {c:Int}:∀{a b:List Int},mbr n c (a++b)=mbr n c a++mbr n c b
 |[],b=>rfl
 |x::a,b=>by simp only [List.cons_append,mbr];rw [mbr_append];split<;>rfl
theorem mem_mbr {n:Nt} {c x:Int}:∀{a:List Int},x∈mbr n c a↔x∈a∧(n.fl.getD x.toNat fl0).cl =c
 |[]=>by simp [mbr]
 |y::a=>by
  simp only [mbr]
  split
  ·rename_i h
   rw [List.mem_cons,List.mem_cons,mem_mbr]
   constructor
   ·rintro(rfl|⟨h1,h2⟩)
    ·exact⟨.inl rfl,h⟩
    ·exact⟨.inr h1,h2⟩
   ·rintro⟨rfl|h1,h2⟩
    ·exact .inl rfl
    ·exact .inr ⟨h1,h2⟩
  ·rename_i h
   rw [List.mem_cons,mem_mbr]
   constructor
   ·rintro⟨h1,h2⟩;exact⟨.inr h1,h2⟩
   ·rintro⟨rfl|h1,h2⟩
    ·exact absurd h2 h
    ·exact⟨h1,h2⟩
theorem mbr_len {n:Nt} {c:Int}:∀{a:List Int},(mbr n c a).length ≤a.length
 |[]=>by simp [mbr]
 |y::a=>by
  have:=mbr_len (n:=n) (c:=c) (a:=a)
  simp only [mbr];split<;>simp<;>omega
theorem mbr_step {n:Nt} {c:Int} {l:List Int} {i:Nat} (h:i<l.length):mbr n c (l.take (i+1))=if(n.fl.getD (l.getD i 0).toNat fl0).cl =c then mbr n c (l.take i)++[l.getD i 0]else mbr n c (l.take i):=by
 rw [List.take_succ_eq_append_getElem h,mbr_append]
 have e:l.getD i 0=l[i]:=by simp [List.getD_eq_getElem?_getD,h]
 rw [e]
 simp only [mbr];split<;>simp
def szs (n:Nt):List Int→Int×Int
 |[]=>(1,1)
 |x::r=>(r.foldl (fun a y=>(min a.1 (n.fl.getD y.toNat fl0).lo,max a.2 (n.fl.getD y.toNat fl0).hi)) ((n.fl.getD x.toNat fl0).lo,(n.fl.getD x.toNat fl0).hi))
theorem szs_step {n:Nt} {l:List Int} {y:Int} (h:l≠[]):szs n (l++[y])=(min (szs n l).1 (n.fl.getD y.toNat fl0).lo,max (szs n l).2 (n.fl.getD y.toNat fl0).hi):=by
 cases l with
 |nil=>exact absurd rfl h
 |cons x r=>simp only [List.cons_append,szs,List.foldl_append,List.foldl_cons,List.foldl_nil]
end Go.Np
end
section
namespace Go.Np
open Go.Cv
def FinP (vs:List Int):Prop:=vs.getD (vs.length-1) 0≠INF
open Classical in
noncomputable def flowE (n:Nt) (i:Nat):Int:=
 if nmErr ((n.fl.take i).map (·.nm)) (n.fl.getD i fl0).nm ≠0 then nmErr ((n.fl.take i).map (·.nm)) (n.fl.getD i fl0).nm
 else if routeE n.ln (n.fl.getD i fl0)≠0 then routeE n.ln (n.fl.getD i fl0)
 else trafE (ValidP (n.fl.getD i fl0).v (n.fl.getD i fl0).p (n.fl.getD i fl0).q) (FinP (n.fl.getD i fl0).v) (n.fl.getD i fl0)
noncomputable def chkN (n:Nt):Int:=
 if n.ln.length=0∨8<n.ln.length∨10<n.fl.length then 3
 else if n.nm.length≠n.ln.length then 2
 else if firstE (lineE n) n.ln.length≠0 then firstE (lineE n) n.ln.length
 else firstE (flowE n) n.fl.length
theorem chkN_line {n:Nt} {i:Nat} (h1:¬(n.ln.length=0∨8<n.ln.length∨10<n.fl.length)) (h2:n.nm.length=n.ln.length) (hi:i<n.ln.length) (h:∀j<i,lineE n j=0) (hn:lineE n i≠0):chkN n=lineE n i:=by
 unfold chkN
 rw [if_neg h1,if_neg (by omega),firstE_at hi h hn,if_pos hn]
theorem chkN_flow {n:Nt} {i:Nat} (h1:¬(n.ln.length=0∨8<n.ln.length∨10<n.fl.length)) (h2:n.nm.length=n.ln.length) (hl:∀j<n.ln.length,lineE n j=0) (hi:i<n.fl.length) (h:∀j<i,flowE n j=0) (hn:flowE n i≠0):chkN n=flowE n i:=by
 unfold chkN
 rw [if_neg h1,if_neg (by omega),firstE_all hl,if_neg (by simp),firstE_at hi h hn]
theorem chkN_ok {n:Nt} (h1:¬(n.ln.length=0∨8<n.ln.length∨10<n.fl.length)) (h2:n.nm.length=n.ln.length) (hl:∀j<n.ln.length,lineE n j=0) (h:∀j<n.fl.length,flowE n j=0):chkN n=0:=by
 unfold chkN
 rw [if_neg h1,if_neg (by omega),firstE_all hl,if_neg (by simp),firstE_all h]
theorem chkN_zero {n:Nt} (h:chkN n=0):¬(n.ln.length=0∨8<n.ln.length∨10<n.fl.length)∧n.nm.length=n.ln.length∧(∀j<n.ln.length,lineE n j=0)∧∀j<n.fl.length,flowE n j=0:=by
 unfold chkN at h
 split at h
 ·omega
 ·split at h
  ·omega
  ·split at h
   ·contradiction
   ·rename_i h1 h2 h3
    exact⟨h1,by omega,firstE_zero (by omega),firstE_zero h⟩
def lname (i:Nat):ByteArray:=⟨#[(97+i).toUInt8]⟩
def fname (i:Nat):ByteArray:=⟨#[(102+i).toUInt8]⟩
theorem getD_in {α:Type} {l:List α} {d:α} {i:Nat} (h:i<l.length):l.getD i d∈l:=by
 rw [List.getD_eq_getElem?_getD,List.getElem?_eq_getElem h];exact List.getElem_mem h
theorem mem_take {α:Type} {l:List α} {d x:α} {i:Nat} (h:x∈l.take i):∃j,j<i∧j<l.length∧x=l.getD j d:=by
 obtain⟨j,hj,e⟩:=List.mem_iff_getElem.1 h
 rw [List.length_take]at hj
 refine⟨j,by omega,by omega,?_⟩
 rw [←e,List.getElem_take]
 simp [List.getD_eq_getElem?_getD,show j<l.length by omega]
theorem lname_word:∀i<4,WordP (lname i):=by decide+kernel
theorem fname_word:∀i<5,WordP (fname i):=by decide+kernel
theorem nm_fresh {met:List ByteArray} {s:ByteArray} (h:WordP s) (hm:s∉met):nmErr met s=0:=by
 unfold nmErr;rw [if_neg (fun k=>k h),if_neg hm]
end Go.Np
end
section
namespace Go.Tp
open Go.Np
theorem mem_takeD {α:Type} {l:List α} {d x:α} {i:Nat}:x∈l.take i↔∃j,j<i∧j<l.length∧x=l.getD j d:=by
 constructor
 ·intro h;exact mem_take h
 ·rintro⟨j,h1,h2,rfl⟩
  rw [List.mem_iff_getElem]
  refine⟨j,by rw [List.length_take];omega,?_⟩
  rw [List.getElem_take]
  simp [List.getD_eq_getElem?_getD,h2]
structure RtOK (n:Nt) (f:Fl):Prop where
 l1:1≤f.rt.length
 l2:f.rt.length≤4
 b:∀i,i<f.rt.length→0≤f.rt.getD i 0∧f.rt.getD i 0<n.ln.length
 d:∀i j,i<j→j<f.rt.length→f.rt.getD i 0≠f.rt.getD j 0
 c:∀i,i<f.rt.length→0≤f.cl∧f.cl<(n.ln.getD (f.rt.getD i 0).toNat ln0).n
theorem routeE_ok {n:Nt} {f:Fl} (h:routeE n.ln f=0):RtOK n f:=by
 unfold routeE at h
 split at h
 ·omega
 ·split at h
  ·omega
  ·rename_i h1 h2
   have hz:=firstE_zero h
   have key:∀i,i<f.rt.length→(0≤f.rt.getD i 0∧f.rt.getD i 0<n.ln.length)∧f.rt.getD i 0∉f.rt.take i∧0≤f.cl∧f.cl<(n.ln.getD (f.rt.getD i 0).toNat ln0).n :=by
    intro i hi
    have h3:=hz i hi
    unfold hopE at h3
    split at h3
    ·omega
    ·split at h3
     ·omega
     ·split at h3
      ·omega
      ·exact⟨by omega,by assumption,by omega,by omega⟩
   refine⟨by omega,by omega,fun i hi=>(key i hi).1,fun i j hij hj e=>?_,fun i hi=>(key i hi).2.2⟩
   exact(key j hj).2.1 ((mem_takeD (d:=0)).2 ⟨i,hij,by omega,e.symm⟩)
theorem chk_fl {n:Nt} (h:chkN n=0):∀j,j<n.fl.length→RtOK n (n.fl.getD j fl0):=by
 intro j hj
 have h1:=(chkN_zero h).2.2.2 j hj
 unfold flowE at h1
 split at h1
 ·contradiction
 ·split at h1
  ·contradiction
  ·exact routeE_ok (by omega)
end Go.Tp
end
section
namespace Go.Cv
def ahd (f:C3) (d t:Nat):Int:=if t=0 then 0 else cv f (t+d)
theorem ahd_congr {f a:C3} (h:∀t,cv a t=cv f t) (d:Nat):ahd a d=ahd f d:=by
 funext t;unfold ahd;rw [h]
theorem ahd_per {a:C3} (ha:VC a) (d s:Nat) (h1:1≤s) (h2:a.1.length-a.2.1-d≤s):Per (ahd a d) s a.2.1 a.2.2:=by
 intro t ht
 unfold ahd
 rw [if_neg (show¬t=0 by omega),if_neg (show¬t+a.2.1=0 by have:=ha.p1;omega)]
 have:=ha.per (t+d) (by omega)
 rw [show t+a.2.1+d=t+d+a.2.1 by omega]
 exact this
theorem ahd_bd {f:C3} (hf:VC f) (ff:FinC f) {d t:Nat} (h:t+d≤1048576):0≤ahd f d t∧ahd f d t≤2000000000000000:=by
 unfold ahd
 split
 ·omega
 ·exact⟨cv_nonneg hf _,cv_small hf h (ff.not hf _)⟩
end Go.Cv
end
section
namespace Go.Np
open Go.Cv Go.Tp
structure ShapeP (n:Nt) (d:List (List Int)):Prop where
 c:chkN n=0
 l:d.length=n.ln.length
 r:∀i,i<d.length→((d.getD i []).length :Int)=(n.ln.getD i ln0).n
 b:∀i,i<d.length→∀j,j<(d.getD i []).length →-1≤(d.getD i []).getD j 0∧(d.getD i []).getD j 0≤400
def HopP (n:Nt) (f h:Int):Prop:=0≤f∧f<n.fl.length∧0≤h∧h<(n.fl.getD f.toNat fl0).rt.length
def dly (d:List (List Int)) (f:Fl) (i:Nat):Int:=(d.getD (f.rt.getD i 0).toNat []).getD f.cl.toNat 0
def bef (d:List (List Int)) (f:Fl):Nat→Option Nat
 |0=>some 0
 |i+1=>match bef d f i with
  |none=>none
  |some s=>if dly d f i<0 then none else some (s+(dly d f i).toNat)
theorem bef_none {d : List (List Int)} {f : Fl} {i : Nat} (h : bef d f i = none) : ∀ {m : Nat}, i ≤ m → bef d f m = none
  | 0, hm => by have : i = 0 := by omega
                subst this; exact h
  | m + 1, hm => by
    by_cases e : i = m + 1
    · subst e; exact h
    · simp only [bef]; rw [bef_none h (m := m) (by omega)]
theorem ShapeP.dly {n:Nt} {d:List (List Int)} (h:ShapeP n d) {f:Fl} (hf:RtOK n f) {i:Nat} (hi:i<f.rt.length):
  (f.rt.getD i 0).toNat <d.length∧f.cl.toNat<(d.getD (f.rt.getD i 0).toNat []).length ∧-1≤dly d f i∧dly d f i≤400:=by
 have h1:=hf.b i hi
 have h2:=hf.c i hi
 have h3:=h.l
 have h4:=h.r (f.rt.getD i 0).toNat (by omega)
 have h5:=h.b (f.rt.getD i 0).toNat (by omega) f.cl.toNat (by omega)
 exact⟨by omega,by omega,h5⟩
theorem bef_le {n:Nt} {d:List (List Int)} (h:ShapeP n d) {f:Fl} (hf:RtOK n f):∀{i s:Nat},i≤f.rt.length→bef d f i=some s→s≤400*i
 |0,s,_,hs=>by simp only [bef,Option.some.injEq]at hs;omega
 |i+1,s,hi,hs=>by
  simp only [bef]at hs
  split at hs
  ·contradiction
  ·rename_i s' hs'
   have h1:=bef_le h hf (i:=i) (s:=s') (by omega) hs'
   have h2:=(h.dly hf (i:=i) (by omega)).2.2
   split at hs
   ·contradiction
   ·simp only [Option.some.injEq]at hs;omega
abbrev ctc (f:Fl):C3:=(f.v,f.p.toNat,f.q)
theorem chk_ct {n:Nt} (h:chkN n=0):∀j,j<n.fl.length→VC (ctc (n.fl.getD j fl0))∧FinC (ctc (n.fl.getD j fl0))∧1≤(n.fl.getD j fl0).p ∧(n.fl.getD j fl0).v.getD 0 0=0:=by
 intro j hj
 have h1:=(chkN_zero h).2.2.2 j hj
 unfold flowE at h1
 split at h1
 ·contradiction
 ·split at h1
  ·contradiction
  ·unfold trafE at h1
   split at h1
   ·contradiction
   ·split at h1
    ·contradiction
    ·split at h1
     ·contradiction
     ·split at h1
      ·contradiction
      ·rename_i h2 h3 h4
       obtain⟨p,e,hv⟩:=(Classical.not_not.1 h2).vf
       refine⟨?_,Classical.not_not.1 h4,?_,by omega⟩
       ·show VF _ (n.fl.getD j fl0).p.toNat _
        rw [e,Int.toNat_natCast];exact hv
       ·have:=hv.p1;omega
def AtP (n:Nt) (d:List (List Int)) (f h:Int) (x:List Int×Int×Int×Int):Prop:=
 (¬ShapeP n d∧x=([],0,0,6))∨(ShapeP n d∧¬HopP n f h∧x=([],0,0,2))∨
 (ShapeP n d∧HopP n f h∧((bef d (n.fl.getD f.toNat fl0) h.toNat=none∧x=([],0,0,5))∨∃s,bef d (n.fl.getD f.toNat fl0) h.toNat=some s∧MkP (ahd (ctc (n.fl.getD f.toNat fl0)) s) x))
end Go.Np
end
section
namespace Go.Pk
structure Pk where
 f:Int
 t:Int
 s:Int
def sel (flow:Int) (x:Pk):Prop:=flow= -1∨(x.f=flow∧0≤flow)
instance (flow:Int) (x:Pk):Decidable (sel flow x):=inferInstanceAs (Decidable (_∨_))
abbrev pk0:Pk:=⟨0,0,0⟩
def selN (p:List Pk) (flow:Int):Nat→List (Nat×Pk)
 |0=>[]
 |i+1=>if sel flow (p.getD i pk0)then selN p flow i++[(i,p.getD i pk0)]else selN p flow i
theorem selN_pre (p : List Pk) (flow : Int) {i : Nat} : ∀ {m : Nat}, i ≤ m → ∃ r, selN p flow m = selN p flow i ++ r
  | 0, h => by have : i = 0 := by omega
               subst this; exact ⟨[], by simp [selN]⟩
  | m + 1, h => by
    by_cases e : i = m + 1
    · subst e; exact ⟨[], by simp⟩
    · obtain ⟨r, hr⟩ := selN_pre p flow (i := i) (m := m) (by omega)
      simp only [selN]
      split
      · exact ⟨r ++ [(m, p.getD m pk0)], by rw [hr, List.append_assoc]⟩
      · exact ⟨r, hr⟩
theorem selN_at {p:List Pk} {flow:Int} {i:Nat} (hi:i<p.length) (h:sel flow (p.getD i pk0)):(selN p flow p.length)[(selN p flow i).length]? =some (i,p.getD i pk0):=by
 obtain⟨r,hr⟩:=selN_pre p flow (i:=i+1) (m:=p.length) (by omega)
 rw [hr]
 simp only [selN]
 rw [if_pos h,List.append_assoc,List.getElem?_append_right (Nat.le_refl _),Nat.sub_self]
 rfl
theorem selN_len (p:List Pk) (flow:Int):∀i,(selN p flow i).length ≤i
 |0=>by simp [selN]
 |i+1=>by have:=selN_len p flow i;simp only [selN];split<;>simp<;>omega
theorem selN_step (p:List Pk) (flow:Int) (i:Nat):(sel flow (p.getD i pk0)→selN p flow (i+1)=selN p flow i++[(i,p.getD i pk0)])∧(¬sel flow (p.getD i pk0)→selN p flow (i+1)=selN p flow i):=
 ⟨fun h=>by simp only [selN];rw [if_pos h],fun h=>by simp only [selN];rw [if_neg h]⟩
def bysL (t:Int):List (Nat×Pk)→Int
 |[]=>0
 |x::l=>(if x.2.t<t then x.2.s else 0)+bysL t l
theorem bysL_app (t:Int):∀a b:List (Nat×Pk),bysL t (a++b)=bysL t a+bysL t b
 |[],b=>by simp [bysL]
 |x::a,b=>by simp only [List.cons_append,bysL];rw [bysL_app];omega
def bys (p:List Pk) (flow t:Int):Int:=bysL t (selN p flow p.length)
theorem bysL_take (t:Int) {l:List (Nat×Pk)} {j:Nat} {x:Nat×Pk} (h:l[j]? =some x):bysL t (l.take (j+1))=bysL t (l.take j)+if x.2.t<t then x.2.s else 0:=by
 obtain⟨hj,e⟩:=List.getElem?_eq_some_iff.1 h
 rw [List.take_succ_eq_append_getElem hj,bysL_app,e]
 simp [bysL]
theorem getD_memP {l:List Pk} {i:Nat} (h:i<l.length):l.getD i pk0∈l:=by
 rw [List.getD_eq_getElem?_getD,List.getElem?_eq_getElem h];exact List.getElem_mem h
theorem selN_mem {p:List Pk} {flow:Int}:∀{i:Nat},i≤p.length→∀x∈selN p flow i,x.1<i∧x.2=p.getD x.1 pk0∧x.2∈p
 |0,_,x,h=>by simp [selN]at h
 |i+1,hi,x,h=>by
  have ih:=selN_mem (p:=p) (flow:=flow) (i:=i) (by omega)
  simp only [selN]at h
  split at h
  ·rcases List.mem_append.1 h with h|h
   ·have:=ih x h;exact⟨by omega,this.2⟩
   ·rw [List.mem_singleton.1 h];exact⟨by simp,rfl,getD_memP (by omega)⟩
  ·have:=ih x h;exact⟨by omega,this.2⟩
def Sml (p:List Pk):Prop:=∀x∈p,0≤x.s∧x.s≤1000000
theorem bysL_bd {t:Int}:∀{l:List (Nat×Pk)},(∀x∈l,0≤x.2.s∧x.2.s≤1000000)→0≤bysL t l∧bysL t l≤1000000*l.length
 |[],_=>by simp [bysL]
 |x::l,h=>by
  have h1:=h x (by simp)
  have h2:=bysL_bd (t:=t) (l:=l) fun y hy=>h y (List.mem_cons_of_mem _ hy)
  simp only [bysL,List.length_cons]
  split<;>(push_cast;omega)
theorem sel_bd {p:List Pk} {flow t:Int} (hs:Sml p) (j:Nat):0≤bysL t ((selN p flow p.length).take j)∧bysL t ((selN p flow p.length).take j)≤1000000*p.length:=by
 have h1:=bysL_bd (t:=t) (l:=(selN p flow p.length).take j) fun x hx=>hs x.2 (selN_mem (Nat.le_refl _) x (List.mem_of_mem_take hx)).2.2
 have h2:=selN_len p flow p.length
 have h3:((selN p flow p.length).take j).length ≤p.length:=by rw [List.length_take];omega
 omega
def bad (x:Pk):Prop:=x.f<0∨60≤x.f∨x.t<0∨2000<x.t∨x.s<1∨1500<x.s
instance (x:Pk):Decidable (bad x):=inferInstanceAs (Decidable (_∨_))
def lst (p:List Pk):Nat→Int
 |0=>0
 |i+1=>(p.getD i pk0).t
def vldN (p:List Pk):Nat→Int
 |0=>0
 |i+1=>if vldN p i≠0 then vldN p i else if bad (p.getD i pk0)then 2 else if(p.getD i pk0).t <lst p i then 7 else 0
def vld (p:List Pk):Int:=if 60<p.length then 3 else vldN p p.length
theorem vldN_ge {p : List Pk} {i : Nat} : ∀ {m : Nat}, i ≤ m → vldN p i ≠ 0 → vldN p m = vldN p i
  | 0, h, _ => by have : i = 0 := by omega
                  subst this; rfl
  | m + 1, h, hn => by
    by_cases e : i = m + 1
    · subst e; rfl
    · have := vldN_ge (p := p) (i := i) (m := m) (by omega) hn
      simp only [vldN]; rw [if_pos (by rw [this]; exact hn), this]
theorem vldN_zero {p:List Pk}:∀{m:Nat},vldN p m=0↔∀i,i<m→¬bad (p.getD i pk0)∧lst p i≤(p.getD i pk0).t
 |0=>by simp [vldN]
 |m+1=>by
  have ih:=vldN_zero (p:=p) (m:=m)
  simp only [vldN]
  constructor
  ·intro h
   split at h
   ·exact absurd h (by assumption)
   ·rename_i h0
    split at h
    ·cases h
    ·split at h
     ·cases h
     ·rename_i h1 h2
      intro i hi
      by_cases e:i=m
      ·subst e;exact⟨h1,by omega⟩
      ·exact ih.1 (by omega) i (by omega)
  ·intro h
   have h0:=ih.2 fun i hi=>h i (by omega)
   rw [if_neg (by omega),if_neg (h m (by omega)).1,if_neg (by have:=(h m (by omega)).2;omega)]
structure Vld (p:List Pk):Prop where
 l:p.length≤60
 g:∀i,i<p.length→¬bad (p.getD i pk0)
 o:∀i,i<p.length→lst p i≤(p.getD i pk0).t
theorem vld_zero {p:List Pk}:vld p=0↔Vld p:=by
 unfold vld
 constructor
 ·intro h
  split at h
  ·cases h
  ·rename_i hl
   have:=vldN_zero.1 h
   exact⟨by omega,fun i hi=>(this i hi).1,fun i hi=>(this i hi).2⟩
 ·rintro⟨h1,h2,h3⟩
  rw [if_neg (by omega),vldN_zero]
  exact fun i hi=>⟨h2 i hi,h3 i hi⟩
theorem Vld.mem {p:List Pk} (h:Vld p):∀x∈p,¬bad x:=fun x hx=>by
 obtain⟨i,hi,rfl⟩:=List.mem_iff_getElem.1 hx
 have:=h.g i hi
 rwa [List.getD_eq_getElem?_getD,List.getElem?_eq_getElem hi]at this
theorem Vld.sml {p:List Pk} (h:Vld p):Sml p:=fun x hx=>by
 have:=h.mem x hx
 unfold bad at this;omega
def incL (u:Int):List (Nat×Pk)→Int
 |[]=>0
 |x::l=>(if x.2.t+1=u then x.2.s else 0)+incL u l
theorem bysL_inc (u:Int):∀l:List (Nat×Pk),bysL (u+1) l=bysL u l+incL (u+1) l
 |[]=>rfl
 |x::l=>by
  simp only [bysL,incL]
  rw [bysL_inc u l]
  split<;>split<;>split<;>omega
theorem bysL_zero:∀{l:List (Nat×Pk)},(∀x∈l,0≤x.2.t)→bysL 0 l=0∧incL 0 l=0
 |[],_=>⟨rfl,rfl⟩
 |x::l,h=>by
  have h1:=h x (by simp)
  have h2:=bysL_zero (l:=l) fun y hy=>h y (List.mem_cons_of_mem _ hy)
  simp only [bysL,incL]
  rw [if_neg (by omega),if_neg (by omega),h2.1,h2.2];exact⟨rfl,rfl⟩
theorem incL_bd {u:Int}:∀{l:List (Nat×Pk)},(∀x∈l,0≤x.2.s∧x.2.s≤1000000)→0≤incL u l∧incL u l≤1000000*l.length
 |[],_=>by simp [incL]
 |x::l,h=>by
  have h1:=h x (by simp)
  have h2:=incL_bd (u:=u) (l:=l) fun y hy=>h y (List.mem_cons_of_mem _ hy)
  simp only [incL,List.length_cons]
  split<;>(push_cast;omega)
end Go.Pk
end
section
namespace Go.St
variable {α:Type}
def insR (k:α→Int) (x:α):List α→List α
 |[]=>[x]
 |y::r=>if k x<k y then y::insR k x r else x::y::r
def srtR (k:α→Int) (l:List α):List α:=l.foldl (fun R x=>insR k x R) []
def srt (k:α→Int) (l:List α):List α:=(srtR k l).reverse
theorem srtR_snoc (k:α→Int) (l:List α) (x:α):srtR k (l++[x])=insR k x (srtR k l):=by simp [srtR]
theorem insR_len (k:α→Int) (x:α):∀R:List α,(insR k x R).length =R.length+1
 |[]=>rfl
 |y::r=>by simp only [insR];split<;>simp [insR_len k x r]
theorem srtR_len (k:α→Int) (l:List α):(srtR k l).length =l.length:=by
 suffices h:∀(l R:List α),(l.foldl (fun R x=>insR k x R) R).length =R.length+l.length by simpa [srtR]using h l []
 intro l
 induction l with
 |nil=>simp
 |cons x l ih=>intro R;simp only [List.foldl_cons,List.length_cons];rw [ih,insR_len];omega
theorem srt_len (k:α→Int) (l:List α):(srt k l).length =l.length:=by rw [srt,List.length_reverse,srtR_len]
theorem insR_app {k:α→Int} {x:α}:∀{R1 R2:List α},(∀y∈R1,k x<k y)→insR k x (R1++R2)=R1++insR k x R2
 |[],_,_=>rfl
 |y::r,R2,h=>by
  simp only [List.cons_append,insR]
  rw [if_pos (h y (by simp)),insR_app fun z hz=>h z (List.mem_cons_of_mem _ hz)]
theorem insR_stop {k:α→Int} {x:α} {R:List α} {m:Nat} (h:∀y∈R.take m,k x<k y) (hs:∀y,R[m]? =some y→¬k x<k y):insR k x R=R.take m++x::R.drop m:=by
 have e:R=R.take m++R.drop m:=(List.take_append_drop m R).symm
 rw [show insR k x R=insR k x (R.take m++R.drop m)by rw [←e],insR_app h]
 congr 1
 cases hd:R.drop m with
 |nil=>rfl
 |cons y r=>
  have:R[m]? =some y:=by
   have:=congrArg (·[0]?) hd
   simpa [List.getElem?_drop]using this
  simp only [insR]
  rw [if_neg (hs y this)]
def lay (P R:List α) (x:α) (T:List α) (m:Nat):List α:=P++((R.drop m).reverse ++x::((R.take m).reverse ++T))
theorem lay_zero (P R:List α) (x:α) (T:List α):lay P R x T 0=P++(R.reverse++x::T):=by simp [lay]
theorem lay_len (P R:List α) (x:α) (T:List α) (m:Nat):(lay P R x T m).length =P.length+R.length+1+T.length:=by
 simp only [lay,List.length_append,List.length_reverse,List.length_cons,List.length_drop,List.length_take];omega
theorem lay_step (P R:List α) (x:α) (T:List α) {m:Nat} (h:m<R.length):∃A B y,R[m]? =some y∧A.length+1=P.length+(R.length-m)∧lay P R x T m=A++y::x::B∧lay P R x T (m+1)=A++x::y::B:=by
 refine⟨P++(R.drop (m+1)).reverse,(R.take m).reverse ++T,R[m],List.getElem?_eq_getElem h,?_,?_,?_⟩
 ·simp only [List.length_append,List.length_reverse,List.length_drop];omega
 ·have e1:(R.drop m).reverse =(R.drop (m+1)).reverse ++[R[m]]:=by rw [List.drop_eq_getElem_cons h,List.reverse_cons]
  unfold lay
  rw [e1]
  simp only [List.append_assoc,List.cons_append,List.nil_append]
 ·have e2:(R.take (m+1)).reverse =R[m]::(R.take m).reverse :=by rw [List.take_succ_eq_append_getElem h,List.reverse_append];rfl
  unfold lay
  rw [e2]
  simp only [List.append_assoc,List.cons_append]
theorem lay_stop {k:α→Int} (P:List α) {R:List α} {x:α} (T:List α) {m:Nat} (h:∀y∈R.take m,k x<k y) (hs:∀y,R[m]? =some y→¬k x<k y):lay P R x T m=P++((insR k x R).reverse ++T):=by
 rw [insR_stop h hs,lay];simp
def Srt (k:α→Int):List α→Prop
 |[]=>True
 |x::l=>(∀y∈l,k x≤k y)∧Srt k l
theorem insR_mem {k:α→Int} {x y:α}:∀{R:List α},y∈insR k x R↔y=x∨y∈R
 |[]=>by simp [insR]
 |z::r=>by
  simp only [insR]
  split
  ·rw [List.mem_cons,List.mem_cons,insR_mem]
   constructor
   ·rintro(rfl|rfl|h)
    ·exact .inr (.inl rfl)
    ·exact .inl rfl
    ·exact .inr (.inr h)
   ·rintro(rfl|rfl|h)
    ·exact .inr (.inl rfl)
    ·exact .inl rfl
    ·exact .inr (.inr h)
  ·rw [List.mem_cons]
theorem srtR_mem {k:α→Int} {y:α} (l:List α):y∈srtR k l↔y∈l:=by
 suffices h:∀(l R:List α),y∈l.foldl (fun R x=>insR k x R) R↔y∈R∨y∈l by simpa [srtR]using h l []
 intro l
 induction l with
 |nil=>simp
 |cons x l ih=>
  intro R
  simp only [List.foldl_cons,List.mem_cons]
  rw [ih,insR_mem]
  constructor
  ·rintro((h|h)|h)
   ·exact .inr (.inl h)
   ·exact .inl h
   ·exact .inr (.inr h)
  ·rintro(h|h|h)
   ·exact .inl (.inr h)
   ·exact .inl (.inl h)
   ·exact .inr h
theorem srt_mem {k:α→Int} {y:α} {l:List α}:y∈srt k l↔y∈l:=by rw [srt,List.mem_reverse,srtR_mem]
def Dn (k:α→Int):List α→Prop
 |[]=>True
 |x::l=>(∀y∈l,k y≤k x)∧Dn k l
theorem insR_dn {k:α→Int} {x:α}:∀{R:List α},Dn k R→Dn k (insR k x R)
 |[],_=>⟨by simp,trivial⟩
 |y::r,h=>by
  simp only [insR]
  split
  ·rename_i hxy
   refine⟨fun z hz=>?_,insR_dn h.2⟩
   rcases insR_mem.1 hz with rfl|hz
   ·omega
   ·exact h.1 z hz
  ·rename_i hxy
   refine⟨fun z hz=>?_,h⟩
   rcases List.mem_cons.1 hz with rfl|hz
   ·omega
   ·have:=h.1 z hz;omega
theorem srtR_dn (k:α→Int) (l:List α):Dn k (srtR k l):=by
 suffices h:∀(l R:List α),Dn k R→Dn k (l.foldl (fun R x=>insR k x R) R)from h l [] trivial
 intro l
 induction l with
 |nil=>exact fun _ h=>h
 |cons x l ih=>exact fun R h=>ih _ (insR_dn h)
theorem srt_app_up {k:α→Int}:∀{a:List α} {x:α},Srt k a→(∀y∈a,k y≤k x)→Srt k (a++[x])
 |[],x,_,_=>⟨by simp,trivial⟩
 |z::a,x,h,hx=>⟨fun y hy=>by
   rcases List.mem_append.1 hy with hy|hy
   ·exact h.1 y hy
   ·rw [List.mem_singleton.1 hy];exact hx z (by simp),srt_app_up h.2 fun y hy=>hx y (List.mem_cons_of_mem _ hy)⟩
theorem dn_rev {k:α→Int}:∀{R:List α},Dn k R→Srt k R.reverse
 |[],_=>trivial
 |x::r,h=>by
  rw [List.reverse_cons]
  exact srt_app_up (dn_rev h.2) fun y hy=>h.1 y (List.mem_reverse.1 hy)
theorem srt_sorted (k:α→Int) (l:List α):Srt k (srt k l):=dn_rev (srtR_dn k l)
theorem insR_filter {k:α→Int} {x:α} (t:Int):∀{R:List α},Dn k R→(insR k x R).filter (fun y=>k y==t)=if k x=t then x::R.filter (fun y=>k y==t)else R.filter (fun y=>k y==t)
 |[],_=>by simp only [insR,List.filter_cons,List.filter_nil];by_cases h:k x=t<;>simp [h]
 |y::r,h=>by
  simp only [insR]
  split
  ·rename_i hxy
   rw [List.filter_cons,insR_filter t h.2,List.filter_cons]
   by_cases hx:k x=t
   ·rw [if_pos hx,if_pos hx]
    have hy:(k y==t)=false:=by simp;omega
    rw [hy];simp
   ·rw [if_neg hx,if_neg hx]
  ·rw [List.filter_cons]
   by_cases hx:k x=t
   ·rw [if_pos hx,if_pos (by simp [hx])]
   ·rw [if_neg hx,if_neg (by simp [hx])]
theorem srt_filter (k:α→Int) (t:Int) (l:List α):(srt k l).filter (fun y=>k y==t)=l.filter (fun y=>k y==t):=by
 suffices h:∀(l R:List α),Dn k R→(l.foldl (fun R x=>insR k x R) R).filter (fun y=>k y==t)=(l.filter (fun y=>k y==t)).reverse ++R.filter (fun y=>k y==t)by
  have:=h l [] trivial
  rw [srt,List.filter_reverse,srtR,this];simp
 intro l
 induction l with
 |nil=>simp
 |cons x l ih=>
  intro R hR
  simp only [List.foldl_cons]
  rw [ih _ (insR_dn hR),insR_filter t hR,List.filter_cons]
  by_cases hx:k x=t
  ·rw [if_pos hx,if_pos (by simp [hx])];simp
  ·rw [if_neg hx,if_neg (by simp [hx])]
theorem insR_top {k:α→Int} {x:α} {R:List α} (h:∀y∈R,k y≤k x):insR k x R=x::R:=by
 cases R with
 |nil=>rfl
 |cons y r=>simp only [insR];rw [if_neg (by have:=h y (by simp);omega)]
theorem srt_self {k:α→Int} {l:List α} (h:Srt k l):srt k l=l:=by
 suffices h2:∀(l R:List α),Srt k l→(∀y∈R,∀x∈l,k y≤k x)→l.foldl (fun R x=>insR k x R) R=l.reverse++R by
  have:=h2 l [] h (by simp)
  rw [srt,srtR,this];simp
 intro l
 induction l with
 |nil=>simp
 |cons x l ih=>
  intro R hl hR
  simp only [List.foldl_cons]
  rw [insR_top fun y hy=>hR y hy x (by simp),ih _ hl.2]
  ·simp
  ·intro y hy z hz
   rcases List.mem_cons.1 hy with rfl|hy
   ·exact hl.1 z hz
   ·exact hR y hy z (List.mem_cons_of_mem _ hz)
end Go.St
end
section
namespace Go.Pk
open Go.St
abbrev ptm (x:Pk):Int:=x.t
end Go.Pk
end
section
namespace Go.St
variable {α:Type}
theorem srt_app {k:α→Int}:∀{a b:List α},Srt k (a++b)↔Srt k a∧Srt k b∧∀x∈a,∀y∈b,k x≤k y
 |[],b=>by simp [Srt]
 |x::a,b=>by
  simp only [List.cons_append,Srt]
  rw [srt_app (a:=a) (b:=b)]
  constructor
  ·rintro⟨h1,h2,h3,h4⟩
   refine⟨⟨fun y hy=>h1 y (List.mem_append_left _ hy),h2⟩,h3,fun z hz y hy=>?_⟩
   rcases List.mem_cons.1 hz with rfl|hz
   ·exact h1 y (List.mem_append_right _ hy)
   ·exact h4 z hz y hy
  ·rintro⟨⟨h1,h2⟩,h3,h4⟩
   refine⟨fun y hy=>?_,h2,h3,fun z hz=>h4 z (List.mem_cons_of_mem _ hz)⟩
   rcases List.mem_append.1 hy with hy|hy
   ·exact h1 y hy
   ·exact h4 x (by simp) y hy
abbrev flt (k:α→Int) (t:Int) (l:List α):List α:=l.filter fun y=>k y==t
theorem flt_cons (k:α→Int) (t:Int) (x:α) (l:List α):flt k t (x::l)=if k x=t then x::flt k t l else flt k t l:=by
 unfold flt;rw [List.filter_cons]
 by_cases h:k x=t<;>simp [h]
theorem flt_nil {k:α→Int} {t:Int} {l:List α} (h:∀x∈l,k x≠t):flt k t l=[]:=by
 unfold flt;rw [List.filter_eq_nil_iff]
 intro x hx;simpa using h x hx
theorem mem_flt {k:α→Int} {l:List α} {x:α} (h:x∈l):x∈flt k (k x) l:=by
 unfold flt;rw [List.mem_filter];exact⟨h,by simp⟩
theorem srt_uniq {k:α→Int}:∀{a b:List α},Srt k a→Srt k b→(∀t,flt k t a=flt k t b)→a=b
 |[],[],_,_,_=>rfl
 |[],y::b,_,_,h=>by
  have:=h (k y);rw [flt_cons,if_pos rfl]at this;cases this
 |x::a,[],_,_,h=>by
  have:=h (k x);rw [flt_cons,if_pos rfl]at this;cases this
 |x::a,y::b,ha,hb,h=>by
  have e:k x=k y:=by
   have h1:k x≤k y:=by
    have m:y∈x::a:=by
     have:=h (k y)
     have m2:y∈flt k (k y) (x::a):=by rw [this];exact mem_flt (by simp)
     exact(List.mem_filter.1 m2).1
    rcases List.mem_cons.1 m with rfl|m
    ·exact Int.le_refl _
    ·exact ha.1 y m
   have h2:k y≤k x:=by
    have m:x∈y::b:=by
     have:=h (k x)
     have m2:x∈flt k (k x) (y::b):=by rw [←this];exact mem_flt (by simp)
     exact(List.mem_filter.1 m2).1
    rcases List.mem_cons.1 m with rfl|m
    ·exact Int.le_refl _
    ·exact hb.1 x m
   omega
  have h1:=h (k x)
  rw [flt_cons,if_pos rfl,flt_cons,if_pos e.symm]at h1
  have e2:x=y:=(List.cons.inj h1).1
  subst e2
  congr 1
  refine srt_uniq ha.2 hb.2 fun t=>?_
  have:=h t
  rw [flt_cons,flt_cons]at this
  split at this
  ·exact(List.cons.inj this).2
  ·exact this
theorem srt_flt (k:α→Int) (t:Int) (l:List α):flt k t (srt k l)=flt k t l:=srt_filter k t l
theorem eq_srt {k:α→Int} {a l:List α} (h1:Srt k a) (h2:∀t,flt k t a=flt k t l):a=srt k l:=
 srt_uniq h1 (srt_sorted k l) fun t=>by rw [h2,srt_flt]
theorem flt_app (k:α→Int) (t:Int) (a b:List α):flt k t (a++b)=flt k t a++flt k t b:=List.filter_append ..
structure Quart (k:α→Int) (A1 A2 B1 B2:List α):Prop where
 a:Srt k (A1++A2)
 b:Srt k (B1++B2)
 lo:∀x∈A1,∀y∈B2,k x≤k y
 hi:∀y∈B1,∀x∈A2,k y<k x
theorem Quart.fl {k:α→Int} {A1 A2 B1 B2:List α} (h:Quart k A1 A2 B1 B2) (t:Int):flt k t ((A1++B1)++(A2++B2))=flt k t ((A1++A2)++(B1++B2)):=by
 simp only [flt_app,List.append_assoc]
 congr 1
 rw [←List.append_assoc,←List.append_assoc]
 congr 1
 by_cases e:flt k t B1=[]
 ·rw [e];simp
 ·have:flt k t A2=[]:=flt_nil fun x hx hk=>by
   obtain⟨y,hy⟩:=List.exists_mem_of_ne_nil _ e
   have hy:=List.mem_filter.1 hy
   have:=h.hi y hy.1 x hx
   have e2:k y=t:=by simpa using hy.2
   omega
  rw [this];simp
theorem Quart.eq {k:α→Int} {A1 A2 B1 B2:List α} (h:Quart k A1 A2 B1 B2):srt k (A1++B1)++srt k (A2++B2)=srt k ((A1++A2)++(B1++B2)):=by
 refine eq_srt ?_ fun t=>?_
 ·rw [srt_app]
  refine⟨srt_sorted _ _,srt_sorted _ _,fun x hx y hy=>?_⟩
  rw [srt_mem]at hx hy
  have ha:=(srt_app.1 h.a).2.2
  have hb:=(srt_app.1 h.b).2.2
  rcases List.mem_append.1 hx with hx|hx<;>rcases List.mem_append.1 hy with hy|hy
  ·exact ha x hx y hy
  ·exact h.lo x hx y hy
  ·have:=h.hi x hx y hy;omega
  ·exact hb x hx y hy
 ·rw [flt_app,srt_flt,srt_flt,←flt_app,h.fl]
theorem srt_getE {k:α→Int}:∀{l:List α},Srt k l↔∀i j (hi:i<l.length) (hj:j<l.length),i<j→k l[i]≤k l[j]
 |[]=>by simp [Srt]
 |x::l=>by
  simp only [Srt]
  rw [srt_getE (l:=l)]
  constructor
  ·rintro⟨h1,h2⟩ i j hi hj hij
   cases j with
   |zero=>omega
   |succ j=>
    cases i with
    |zero=>exact h1 _ (List.getElem_mem _)
    |succ i=>exact h2 i j (by simpa using hi) (by simpa using hj) (by omega)
  ·intro h
   refine⟨fun y hy=>?_,fun i j hi hj hij=>h (i+1) (j+1) (by simpa using hi) (by simpa using hj) (by omega)⟩
   obtain⟨j,hj,rfl⟩:=List.mem_iff_getElem.1 hy
   exact h 0 (j+1) (by simp) (by simpa using hj) (by omega)
end Go.St
end
section
namespace Go.St
variable {α:Type}
theorem srt_getD {k:α→Int} {d:α} {l:List α} (h:Srt k l) {i j:Nat} (hij:i≤j) (hj:j<l.length):k (l.getD i d)≤k (l.getD j d):=by
 by_cases e:i=j
 ·subst e;exact Int.le_refl _
 ·have:=(srt_getE.1 h) i j (by omega) hj (by omega)
  rw [List.getD_eq_getElem?_getD,List.getD_eq_getElem?_getD,List.getElem?_eq_getElem (by omega),List.getElem?_eq_getElem hj]
  exact this
theorem mem_take_getD {d:α} {l:List α} {s:Nat} {x:α} (h:x∈l.take s):∃i,i<s∧i<l.length∧x=l.getD i d:=by
 obtain⟨i,hi,rfl⟩:=List.mem_iff_getElem.1 h
 rw [List.length_take]at hi
 refine⟨i,by omega,by omega,?_⟩
 rw [List.getElem_take,List.getD_eq_getElem?_getD,List.getElem?_eq_getElem (by omega)];rfl
theorem mem_drop_getD {d:α} {l:List α} {s:Nat} {x:α} (h:x∈l.drop s):∃i,s≤i∧i<l.length∧x=l.getD i d:=by
 obtain⟨i,hi,rfl⟩:=List.mem_iff_getElem.1 h
 rw [List.length_drop]at hi
 refine⟨s+i,by omega,by omega,?_⟩
 rw [List.getElem_drop,List.getD_eq_getElem?_getD,List.getElem?_eq_getElem (by omega)];rfl
theorem quart_of {k:α→Int} (d:α) {A B:List α} (hA:Srt k A) (hB:Srt k B) {h s:Nat} (hs1:h-B.length≤s) (hs2:s≤h) (hs3:s≤A.length)
  (hlo:s=h-B.length∨k (A.getD (s-1) d)≤k (B.getD (h-s) d)) (hhi:s=A.length∨s=h∨k (B.getD (h-1-s) d)<k (A.getD s d)):
  Quart k (A.take s) (A.drop s) (B.take (h-s)) (B.drop (h-s)):=by
 refine⟨by rw [List.take_append_drop];exact hA,by rw [List.take_append_drop];exact hB,fun x hx y hy=>?_,fun y hy x hx=>?_⟩
 ·obtain⟨i,i1,i2,rfl⟩:=mem_take_getD (d:=d) hx
  obtain⟨j,j1,j2,rfl⟩:=mem_drop_getD (d:=d) hy
  rcases hlo with e|e
  ·exfalso;omega
  ·have h1:=srt_getD (d:=d) hA (i:=i) (j:=s-1) (by omega) (by omega)
   have h2:=srt_getD (d:=d) hB (i:=h-s) (j:=j) j1 j2
   omega
 ·obtain⟨i,i1,i2,rfl⟩:=mem_take_getD (d:=d) hy
  obtain⟨j,j1,j2,rfl⟩:=mem_drop_getD (d:=d) hx
  rcases hhi with e|e|e
  ·exfalso;omega
  ·exfalso;omega
  ·have h1:=srt_getD (d:=d) hB (i:=i) (j:=h-1-s) (by omega) (by omega)
   have h2:=srt_getD (d:=d) hA (i:=s) (j:=j) j1 j2
   omega
theorem ins_front {k:α→Int} {x:α} {B:List α} (hB:Srt k B) {i:Nat} (d:α) (h1:∀j,j<i→j<B.length→k (B.getD j d)<k x) (h2:∀j,i≤j→j<B.length→k x≤k (B.getD j d)):
  B.take i++(x::B.drop i)=srt k (x::B):=by
 have q:Quart k [] [x] (B.take i) (B.drop i):=⟨⟨by simp,trivial⟩,by rw [List.take_append_drop];exact hB,fun x hx=>by simp at hx,fun y hy z hz=>by
  rw [List.mem_singleton.1 hz]
  obtain⟨j,j1,j2,rfl⟩:=mem_take_getD (d:=d) hy
  exact h1 j j1 j2⟩
 have e:=q.eq
 rw [List.nil_append,List.nil_append,List.take_append_drop,srt_self (srt_app.1 q.b).1,srt_self (l:=[x]++B.drop i)]at e
 ·exact e
 ·refine⟨fun y hy=>?_,(srt_app.1 q.b).2.1⟩
  obtain⟨j,j1,j2,rfl⟩:=mem_drop_getD (d:=d) (by simpa using hy)
  exact h2 j j1 j2
theorem ins_back {k:α→Int} {y:α} {A:List α} (hA:Srt k A) {i:Nat} (d:α) (h1:∀j,j<i→j<A.length→k (A.getD j d)≤k y) (h2:∀j,i≤j→j<A.length→k y<k (A.getD j d)):
  A.take i++(y::A.drop i)=srt k (A++[y]):=by
 have q:Quart k (A.take i) (A.drop i) [y] []:=⟨by rw [List.take_append_drop];exact hA,by simp [Srt],fun x hx y hy=>by simp at hy,fun z hz x hx=>by
  rw [List.mem_singleton.1 hz]
  obtain⟨j,j1,j2,rfl⟩:=mem_drop_getD (d:=d) hx
  exact h2 j j1 j2⟩
 have e:=q.eq
 rw [List.append_nil,List.append_nil,List.take_append_drop,srt_self (srt_app.1 q.a).2.1,srt_self (l:=A.take i++[y])]at e
 ·rw [←e];simp
 ·refine srt_app.2 ⟨(srt_app.1 q.a).1,⟨by simp,trivial⟩,fun x hx z hz=>?_⟩
  rw [List.mem_singleton.1 hz]
  obtain⟨j,j1,j2,rfl⟩:=mem_take_getD (d:=d) hx
  exact h1 j j1 j2
end Go.St
end
section
namespace Go.St
variable {α:Type}
def sbF (k:α→Int) (s:Nat):Nat→List α→List α
 |0,l=>srt k l
 |n+1,l=>if l.length≤s then srt k l else srt k (l.take s)++sbF k s n (l.drop s)
theorem sbF_eq {k:α→Int} {s:Nat} (hs:1≤s):∀{n m:Nat} {l:List α},l.length≤n→l.length≤m→sbF k s n l=sbF k s m l
 |0,0,_,_,_=>rfl
 |0,m+1,l,h1,_=>by simp only [sbF];rw [if_pos (by omega)]
 |n+1,0,l,_,h2=>by simp only [sbF];rw [if_pos (by omega)]
 |n+1,m+1,l,h1,h2=>by
  simp only [sbF]
  split
  ·rfl
  ·rw [sbF_eq hs (n:=n) (m:=m) (by rw [List.length_drop];omega) (by rw [List.length_drop];omega)]
def sb (k:α→Int) (s:Nat) (l:List α):List α:=sbF k s l.length l
theorem sb_small {k:α→Int} {s:Nat} {l:List α} (h:l.length≤s):sb k s l=srt k l:=by
 unfold sb
 cases l.length with
 |zero=>rfl
 |succ n=>simp only [sbF];rw [if_pos h]
theorem sb_ge {k:α→Int} {s:Nat} (hs:1≤s) {l:List α} (h:s≤l.length):sb k s l=srt k (l.take s)++sb k s (l.drop s):=by
 by_cases e:l.length=s
 ·have e2:l.drop s=[]:=List.drop_of_length_le (by omega)
  rw [sb_small (by omega),e2,List.take_of_length_le (by omega),sb_small (by simp)]
  simp [srt,srtR]
 ·obtain⟨n,hn⟩:∃n,l.length=n+1:=⟨l.length-1,by omega⟩
  show sbF k s l.length l=_
  rw [hn]
  simp only [sbF]
  rw [if_neg (by omega)]
  congr 1
  exact sbF_eq hs (by rw [List.length_drop];omega) (Nat.le_refl _)
theorem sb_len {k:α→Int} {s:Nat} (hs:1≤s) (l:List α):(sb k s l).length =l.length:=by
 suffices h:∀n (l:List α),(sbF k s n l).length =l.length from h _ _
 intro n
 induction n with
 |zero=>intro l;exact srt_len ..
 |succ n ih=>
  intro l
  simp only [sbF]
  split
  ·exact srt_len ..
  ·rw [List.length_append,srt_len,ih,List.length_take,List.length_drop];omega
theorem srt_srt {k:α→Int} (a b:List α):srt k (srt k a++srt k b)=srt k (a++b):=by
 refine eq_srt (srt_sorted _ _) fun t=>?_
 rw [srt_flt,flt_app,srt_flt,srt_flt,flt_app]
theorem sb_two {k:α→Int} {s:Nat} (hs:1≤s) {l:List α} (h:2*s≤l.length):sb k s l=srt k (l.take s)++(srt k ((l.drop s).take s)++sb k s (l.drop (2*s)))∧
  sb k (2*s) l=srt k (srt k (l.take s)++srt k ((l.drop s).take s))++sb k (2*s) (l.drop (2*s)):=by
 have e:(l.drop s).drop s=l.drop (2*s):=by rw [List.drop_drop];congr 1;omega
 refine⟨?_,?_⟩
 ·rw [sb_ge hs (by omega),sb_ge hs (l:=l.drop s) (by rw [List.length_drop];omega),e]
 ·rw [sb_ge (by omega) h,srt_srt,←List.take_append_drop s (l.take (2*s)),List.take_take,show min s (2*s)=s by omega,List.drop_take,show 2*s-s=s by omega]
theorem sb_tail {k:α→Int} {s:Nat} (hs:1≤s) {l:List α} (h1:s<l.length) (h2:l.length<2*s):sb k s l=srt k (l.take s)++srt k (l.drop s)∧sb k (2*s) l=srt k (srt k (l.take s)++srt k (l.drop s)):=by
 refine⟨?_,?_⟩
 ·rw [sb_ge hs (by omega),sb_small (l:=l.drop s) (by rw [List.length_drop];omega)]
 ·rw [sb_small (by omega),srt_srt,List.take_append_drop]
theorem sb_last {k:α→Int} {s:Nat} {l:List α} (h:l.length≤s):sb k s l=sb k (2*s) l:=by rw [sb_small h,sb_small (by omega)]
end Go.St
end
section
namespace Go.Pk
open Go.Cv Go.St
structure Cum (A:Nat→Int) (p:List Pk) (N:Nat):Prop where
 z:A 0=0
 m:∀t,A t≤A (t+1)
 e:∀t,N≤t→A t=A N
 w:∀t:Nat,A (t+1)≠A t→∃x∈p,x.t=(t:Int)
def Kp (A F:Nat→Int) (N:Nat):Prop:=∀s t,s<t→t≤N→A t-A s≤F (t-s)
def endN (p:List Pk):Nat:=match p.length with
 |0=>0
 |i+1=>((p.getD i pk0).t +1).toNat
abbrev csm (p:List Pk) (flow:Int) (t:Nat):Int:=bys p flow t
theorem end_lt {p:List Pk} (hv:Vld p):∀x∈p,0≤x.t∧x.t<endN p:=by
 intro x hx
 have hb:=hv.mem x hx
 unfold bad at hb
 refine⟨by omega,?_⟩
 obtain⟨j,hj,rfl⟩:=List.mem_iff_getElem.1 hx
 have hg:p.getD j pk0=p[j]:=by simp [List.getD_eq_getElem?_getD,hj]
 obtain⟨n,hn⟩:∃n,p.length=n+1:=⟨p.length-1,by omega⟩
 have hs:∀k,j≤k→k<p.length→(p.getD j pk0).t ≤(p.getD k pk0).t :=by
  intro k hjk hk
  induction k with
  |zero=>rw [show j=0 by omega];exact Int.le_refl _
  |succ k ih=>
   by_cases e:j=k+1
   ·subst e;exact Int.le_refl _
   ·have h1:=ih (by omega) (by omega)
    have h2:=hv.o (k+1) hk
    simp only [lst]at h2
    omega
 have h1:=hs n (by omega) (by omega)
 unfold endN
 rw [hn]
 rw [hg]at h1
 dsimp only
 omega
theorem bysL_end {T:Int}:∀{l:List (Nat×Pk)},(∀x∈l,x.2.t<T)→∀t,T≤t→bysL t l=bysL T l
 |[],_,_,_=>rfl
 |x::l,h,t,ht=>by
  have h1:=h x (by simp)
  simp only [bysL]
  rw [if_pos (by omega),if_pos (by omega),bysL_end (fun y hy=>h y (List.mem_cons_of_mem _ hy)) t ht]
theorem incL_mem {u:Int}:∀{l:List (Nat×Pk)},incL u l≠0→∃x∈l,x.2.t+1=u
 |[],h=>absurd rfl h
 |x::l,h=>by
  by_cases e:x.2.t+1=u
  ·exact⟨x,by simp,e⟩
  ·simp only [incL]at h
   rw [if_neg e,Int.zero_add]at h
   obtain⟨y,hy,he⟩:=incL_mem h
   exact⟨y,List.mem_cons_of_mem _ hy,he⟩
theorem csm_cum {p:List Pk} (hv:Vld p) (flow:Int):Cum (csm p flow) p (endN p):=by
 have hm:=fun x hx=>(selN_mem (p:=p) (flow:=flow) (Nat.le_refl _) x hx).2.2
 have he:=end_lt hv
 refine⟨?_,fun t=>?_,fun t ht=>?_,fun t hn=>?_⟩
 ·exact(bysL_zero fun x hx=>(he _ (hm x hx)).1).1
 ·show bysL _ _≤bysL _ _
  push_cast
  rw [bysL_inc]
  have:=(incL_bd (u:=(t:Int)+1) (l:=selN p flow p.length) fun x hx=>hv.sml _ (hm x hx)).1
  omega
 ·exact bysL_end (fun x hx=>(he _ (hm x hx)).2) _ (by omega)
 ·have h1:bysL ((t:Int)+1) (selN p flow p.length)≠bysL t (selN p flow p.length):=by
   have:csm p flow (t+1)=bysL ((t:Int)+1) (selN p flow p.length):=by show bysL _ _=_;push_cast;rfl
   rw [←this];exact hn
  rw [bysL_inc]at h1
  obtain⟨x,hx,e⟩:=incL_mem (u:=(t:Int)+1) (l:=selN p flow p.length) (by omega)
  exact⟨x.2,hm x hx,by omega⟩
end Go.Pk
end
section
namespace Go.Pk
open Go.Cv Go.St
theorem csm_bd {p:List Pk} (hv:Vld p) (flow:Int) (t:Nat):0≤csm p flow t∧csm p flow t≤60000000:=by
 have h1:=sel_bd (flow:=flow) (t:=(t:Int)) hv.sml (selN p flow p.length).length
 rw [List.take_length]at h1
 have h2:=hv.l
 show 0≤bysL _ _∧bysL _ _≤_
 omega
end Go.Pk
end
section
namespace Go.Pk
open Go.Cv Go.St
def mine (flow:Int) (x:Pk):Prop:=flow= -1∨x.f=flow
instance (flow:Int) (x:Pk):Decidable (mine flow x):=inferInstanceAs (Decidable (_∨_))
end Go.Pk
end
