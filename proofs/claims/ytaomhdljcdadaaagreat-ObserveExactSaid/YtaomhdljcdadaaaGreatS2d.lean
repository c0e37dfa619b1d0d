/- Lemmas of this seat. Conditions: as stated. -/
import Derived.Test.YtaomhdljcdadaaaGreatS2
import Derived.Test.YtaomhdljcdadaaaGreatT1
import Derived.Test.YtaomhdljcdadaaaGreatN13
set_option linter.unusedVariables false
set_option linter.unusedSimpArgs false
set_option maxHeartbeats 2000000
set_option maxRecDepth 4000
namespace Go.Proofs.YtaomhdljcdadaaaGreat
section
open Go.Sx Go.Pk Go.Mc
structure QtP (q:List Int) (N:Nat):Prop where
 l:q.length=N
 w:∀c,c<N→1≤q.getD c 0∧q.getD c 0≤6000
structure DfP (N:Nat) (s:Df):Prop where
 c:s.c<N
 d:∀c,0≤s.d c∧s.d c≤7500
 o:∀c,(c≠s.c∨s.b=false)→s.d c≤1500
theorem DfP.q {N:Nat} {q:Nat→Int} (hq:∀c,c<N→1≤q c∧q c≤6000) {s:Df} (h:DfP N s):(∀c,0≤dq q s c∧dq q s c≤7500)∧(∀c,c≠s.c→dq q s c=s.d c):=by
 unfold dq
 split
 ·exact⟨h.d,fun _ _=>rfl⟩
 ·rename_i hb
  have hb:s.b=false:=by simpa using hb
  refine⟨fun c=>?_,fun c hc=>upd_ne hc⟩
  by_cases e:c=s.c
  ·subst e;rw [upd_same];have:=h.d s.c;have:=hq _ h.c;have:=h.o s.c (.inr hb);omega
  ·rw [upd_ne e];exact h.d c
theorem DfP.n {N:Nat} {q:Nat→Int} (hN:1≤N) (hq:∀c,c<N→1≤q c∧q c≤6000) {s:Df} (h:DfP N s) (hz:dq q s s.c≤1500):DfP N ⟨(s.c+1)%N,false,dq q s⟩:=by
 obtain⟨h1,h3⟩:=h.q hq
 refine⟨Nat.mod_lt _ hN,h1,fun c _=>?_⟩
 dsimp only
 by_cases e:c=s.c
 ·subst e;exact hz
 ·rw [h3 c e];exact h.o c (.inl e)
theorem DfP.e {N:Nat} (hN:1≤N) {s:Df} (h:DfP N s):DfP N ⟨(s.c+1)%N,false,upd s.d s.c 0⟩:=by
 refine⟨Nat.mod_lt _ hN,fun c=>?_,fun c _=>?_⟩
 ·dsimp only
  by_cases e:c=s.c
  ·subst e;rw [upd_same];omega
  ·rw [upd_ne e];exact h.d c
 ·dsimp only
  by_cases e:c=s.c
  ·subst e;rw [upd_same];omega
  ·rw [upd_ne e];exact h.o c (.inl e)
theorem DfP.t {N:Nat} {q:Nat→Int} (hq:∀c,c<N→1≤q c∧q c≤6000) {s:Df} (h:DfP N s) {z:Int} (h0:0≤z) (hz:z≤dq q s s.c):DfP N ⟨s.c,true,upd (dq q s) s.c (dq q s s.c-z)⟩:=by
 obtain⟨h1,h3⟩:=h.q hq
 refine⟨h.c,fun c=>?_,fun c ho=>?_⟩
 ·dsimp only
  by_cases e:c=s.c
  ·subst e;rw [upd_same];have:=h1 s.c;omega
  ·rw [upd_ne e];exact h1 c
 ·dsimp only at ho⊢
  have e:c≠s.c:=by
   rcases ho with h|h
   ·exact h
   ·cases h
  rw [upd_ne e,h3 c e];exact h.o c (.inl e)
theorem dfc_st {f:Int→Option Nat} {z:Nat→Nat} {q:Nat→Int} {N:Nat} (hN:1≤N) (hq:∀c,c<N→1≤q c∧q c≤6000) (hz:∀c i,f c=some i→z i≤1500):∀{k:Nat} {s:Df},DfP N s→DfP N (dfc f z q N k s).1
 |0,s,h=>h
 |k+1,s,h=>by
  simp only [dfc]
  split
  ·rename_i i hi
   have:=hz _ _ hi
   split
   ·rename_i hle
    exact h.t hq (by omega) hle
   ·exact dfc_st hN hq hz (h.n hN hq (by omega))
  ·exact dfc_st hN hq hz (h.e hN)
theorem dfc_rch {q:List Int} {N:Nat} (hN:1≤N) (hq:QtP q N) {p:List Pk} (hp:PL p) {s:(defC q).σ} (h:Rch (defC q) p s):DfP N s:=by
 induction h with
 |z=>exact⟨hN,fun c=>⟨Int.le_refl _,by show(0:Int)≤7500;omega⟩,fun c _=>by show(0:Int)≤1500;omega⟩
 |@s t l w s _ ih=>
  show DfP N (Ch.ch (defC q) p t l w s).1
  simp only [defC]
  split
  ·exact ih
  ·split
   ·rw [hq.l]
    exact dfc_st hN (fun c hc=>hq.w c hc) (fun c i hi=>by have:=hp.s i (fc_some.1 hi).1;unfold sz;omega) ih
   ·exact ih
end
section
open Go.Sx Go.Pk Go.Mc
structure FitP (p:List Pk) (c N T:Nat):Prop where
 hp:PL p
 c1:1≤c
 c2:c≤4000
 n1:1≤N
 n2:N≤6
 cl:∀i,i<p.length→0≤cl p i∧cl p i<N
 t:T≤2000
theorem FitP.vld {p:List Pk} {c N T:Nat} (h:FitP p c N T):vld p=0:=by
 refine vld_zero.2 ⟨h.hp.l,fun i hi=>?_,fun i hi=>?_⟩
 ·have h1:=h.hp.s i hi
  have h2:=h.hp.t i hi
  have h3:=h.cl i hi
  have h4:=h.n2
  unfold Mc.cl at h3
  unfold bad;omega
 ·cases i with
  |zero=>have:=h.hp.t 0 hi;exact this.1
  |succ i=>exact h.hp.a i (i+1) (by omega) hi
def RunR (n:Nat) (dn:Nat→Int) (r:SV):Prop:=∃x,RunV n dn x∧r= .tup [x,i64 0]
end
section
open Go.Sx Go.Pk Go.Mc Go.Np
def chL (l:Ln):Ch:=if l.k=1 then fifoC else if l.k=2 then prioC l.n.toNat else if l.k=3 then robinC l.w else if l.k=4 then defC l.w else slotC l.c.toNat l.s
theorem inR_get {l:List Int} {a b:Int} (h:inR l a b) {c:Nat} (hc:c<l.length):a≤l.getD c 0∧l.getD c 0≤b:=by
 rw [List.getD_eq_getElem?_getD,List.getElem?_eq_getElem hc]
 exact h _ (List.getElem_mem hc)
theorem lRun_fit {l:Ln} (h:lnErr l=0) {p:List Pk} {T:Nat} (hp:PL p) (hcl:∀i,i<p.length→0≤cl p i∧cl p i<l.n) (hT:T≤2000):
  FitP p l.c.toNat l.n.toNat T∧l.c=(l.c.toNat:Nat)∧l.n=(l.n.toNat:Nat)∧1≤l.k∧l.k≤5∧(l.k=3→l.w.length=l.n.toNat∧inR l.w 1 20)∧(l.k=4→l.w.length=l.n.toNat∧inR l.w 1 6000)∧(l.k=5→l.s≠[]∧l.s.length≤40):=by
 unfold lnErr at h
 split at h
 ·cases h
 split at h
 ·cases h
 unfold lsErr at h
 split at h
 ·cases h
 rename_i h1 h2 h3
 refine⟨⟨hp,by omega,by omega,by omega,by omega,fun i hi=>by have:=hcl i hi;omega,hT⟩,by omega,by omega,by omega,by omega,fun hk=>?_,fun hk=>?_,fun hk=>?_⟩
 ·have:(l.w.length:Int)=l.n∧inR l.w 1 20:=Classical.byContradiction fun hn=>h3 (.inl ⟨hk,hn⟩)
  exact⟨by omega,this.2⟩
 ·have:(l.w.length:Int)=l.n∧inR l.w 1 6000:=Classical.byContradiction fun hn=>h3 (.inr (.inl ⟨hk,hn⟩))
  exact⟨by omega,this.2⟩
 ·have:1≤l.s.length∧l.s.length≤40∧inR l.s (-1) (l.n-1):=Classical.byContradiction fun hn=>h3 (.inr (.inr ⟨hk,hn⟩))
  exact⟨fun e=>by rw [e]at this;have:=this.1;simp at this,this.2.1⟩
end
end Go.Proofs.YtaomhdljcdadaaaGreat
