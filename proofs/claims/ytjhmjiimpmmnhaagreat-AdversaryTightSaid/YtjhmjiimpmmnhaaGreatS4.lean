/- Lemmas of this seat. Conditions: as stated. -/
import Derived.Test.YtjhmjiimpmmnhaaGreatS3f
import Derived.Test.YtjhmjiimpmmnhaaGreatS3p
import Derived.Test.YtjhmjiimpmmnhaaGreatS3s
import Derived.Test.YtjhmjiimpmmnhaaGreatS3r
import Derived.Test.YtjhmjiimpmmnhaaGreatS3d
import Derived.Test.YtjhmjiimpmmnhaaGreatT1
import Derived.Test.YtjhmjiimpmmnhaaGreatN2
set_option linter.unusedVariables false
set_option linter.unusedSimpArgs false
set_option maxHeartbeats 2000000
set_option maxRecDepth 4000
namespace Go.Proofs.YtjhmjiimpmmnhaaGreat
section
open Go.Sx Go.Pk Go.Mc
structure FitP (p:List Pk) (c N T:Nat):Prop where
 hp:PL p
 c1:1≤c
 c2:c≤4000
 n1:1≤N
 n2:N≤6
 cl:∀i,i<p.length→0≤cl p i∧cl p i<N
 t:T≤2000
theorem FitP.vld {p:List Pk} {c N T:Nat} (h:FitP p c N T):vld p=0:=by
 refine vld_zero.2 ⟨h.hp.l,fun i hi=>?_,fun i hi=>?_⟩
 ·have h1:=h.hp.s i hi
  have h2:=h.hp.t i hi
  have h3:=h.cl i hi
  have h4:=h.n2
  unfold Mc.cl at h3
  unfold bad;omega
 ·cases i with
  |zero=>have:=h.hp.t 0 hi;exact this.1
  |succ i=>exact h.hp.a i (i+1) (by omega) hi
def RunR (n:Nat) (dn:Nat→Int) (r:SV):Prop:=∃x,RunV n dn x∧r= .tup [x,i64 0]
theorem MChk_ok (p:List Pk) (c N T:Nat) (h:FitP p c N T):Ctr Tryz.prog 246 [i64 c,i64 N, .psl 3 (pks p),i64 T] [] (fun r o=>o=[]∧r=i64 0):=by
 refine fI 0 Tryz.func246 ?_
 have hpl:=pks_len p
 have h60:=h.hp.l
 have:=h.c1;have:=h.c2;have:=h.n1;have:=h.n2;have:=h.t
 (repeat' (conv=>whnf);first|refine aC ?_ ?_<;>intro<;>try omega|refine z1_R1 ?_|fail);all_goals try (conv=>whnf)
 refine LoopOb.mk (Y:=Nat) (st:=fun i=>⟨[(35,i64 i),(34,i64 (pks p).length),(33, .psl 3 (pks p)),(1,i64 N)],[]⟩)
  (inv:=fun i=>i≤p.length) (fun i=>p.length-i) 0 [] (by omega) (by(exact aL)) ?_
 rintro i hi
 (repeat' (conv=>whnf);first|refine z1_R1 ?_|fail);all_goals try (conv=>whnf)
 refine CondOb.mk (fun hlt=>?_) (fun hlt=>?_)
 ·have hil:i<p.length:=by omega
  have hg:=pks_get hil
  have hc:=h.cl i hil
  unfold Mc.cl at hc
  generalize p.getD i pk0=x at*
  (repeat' (conv=>whnf);first|refine⟨i,_,rfl,hg,?_⟩|refine aC ?_ ?_<;>intro<;>try omega|refine z1_R1 ?_|fail);all_goals try (conv=>whnf)
  exact⟨i+1,[],by omega,by omega,by(exact aL)⟩
 ·(repeat' (conv=>whnf);first|refine aC ?_ ?_<;>intro<;>try omega|refine z1_R1 ?_|fail);all_goals try (conv=>whnf)
  exact⟨rfl,rfl⟩
theorem fRun_ok (p:List Pk) (c N T:Nat) (h:FitP p c N T):Ctr Tryz.prog 245 [i64 c,i64 N, .psl 3 (pks p),i64 T] [] (fun r o=>o=[]∧RunR p.length (run fifoC p c T).dn r):=by
 refine fI 0 Tryz.func245 ?_
 have h60:=h.hp.l
 (repeat' (conv=>whnf);first|refine aC ?_ ?_<;>intro<;>try omega|refine z1_R1 ?_|fail);all_goals try (conv=>whnf)
 refine aK [] (Validate_ok p (by omega)) ?_
 rw [h.vld]
 (repeat' (conv=>whnf);first|refine aC ?_ ?_<;>intro<;>try omega|refine z1_R1 ?_|(refine aK [] (MChk_ok p c N T h) ?_)|fail);all_goals try (conv=>whnf)
 refine aM [] (MRunf_ok p h.hp c N T h.c1 h.c2 h.n1 h.n2 h.cl h.t) rfl rfl ?_
 rintro _ _ ⟨rfl,ms,hms,rfl⟩
 (repeat' (conv=>whnf);first|refine aC ?_ ?_<;>intro<;>try omega|refine z1_R1 ?_|fail);all_goals try (conv=>whnf)
 exact⟨rfl,_,⟨ms,hms,rfl⟩,rfl⟩
theorem pRun_ok (p:List Pk) (c N T:Nat) (h:FitP p c N T):Ctr Tryz.prog 252 [i64 c,i64 N, .psl 3 (pks p),i64 T] [] (fun r o=>o=[]∧RunR p.length (run (prioC N) p c T).dn r):=by
 refine fI 0 Tryz.func252 ?_
 have h60:=h.hp.l
 (repeat' (conv=>whnf);first|refine aC ?_ ?_<;>intro<;>try omega|refine z1_R1 ?_|fail);all_goals try (conv=>whnf)
 refine aK [] (Validate_ok p (by omega)) ?_
 rw [h.vld]
 (repeat' (conv=>whnf);first|refine aC ?_ ?_<;>intro<;>try omega|refine z1_R1 ?_|fail);all_goals try (conv=>whnf)
 refine aK [] (MChk_ok p c N T h) ?_
 (repeat' (conv=>whnf);first|refine aC ?_ ?_<;>intro<;>try omega|refine z2_J3 ?_|fail);all_goals try (conv=>whnf)
 refine .mk [.fb 0] ?_
 (repeat' (conv=>whnf);first|refine aC ?_ ?_<;>intro<;>try omega|refine z1_R1 ?_|fail);all_goals try (conv=>whnf)
 refine CallOb.mk [] (MRunp_ok p h.hp c N T h.c1 h.c2 h.n1 h.n2 h.cl h.t) rfl ⟨Imp.refl _,Imp.refl _,Imp.refl _,Imp.refl _,Imp.fn ⟨Imp.shut rfl,trivial⟩,trivial⟩ rfl rfl ?_
 rintro _ _ ⟨rfl,ms,hms,rfl⟩
 (repeat' (conv=>whnf);first|refine aC ?_ ?_<;>intro<;>try omega|refine z1_R1 ?_|fail);all_goals try (conv=>whnf)
 exact⟨rfl,_,⟨ms,hms,rfl⟩,rfl⟩
theorem wghR_ok (wl:List Int) (N:Nat) (hN:N≤6) (hl:wl.length=N) (hw:∀c,c<N→1≤wl.getD c 0∧wl.getD c 0≤20):Ctr Tryz.prog 262 [.psl 1 (ints wl)] [] (fun r o=>o=[]∧r= .bl true):=by
 refine fI 0 Tryz.func262 ?_
 have hil:=ints_len wl
 (repeat' (conv=>whnf);first|refine aC ?_ ?_<;>intro<;>try omega|refine z1_R1 ?_|fail);all_goals try (conv=>whnf)
 refine LoopOb.mk (Y:=Nat) (st:=fun i=>⟨[(7,i64 i),(6,i64 (ints wl).length),(5, .psl 1 (ints wl))],[]⟩)
  (inv:=fun i=>i≤N) (fun i=>N-i) 0 [] (by omega) (by(exact aL)) ?_
 rintro i hi
 (repeat' (conv=>whnf);first|refine z1_R1 ?_|fail);all_goals try (conv=>whnf)
 refine CondOb.mk (fun hlt=>?_) (fun hlt=>?_)
 ·have hg:=ints_get (l:=wl) (j:=i) (by omega)
  have hb:=hw i (by omega)
  generalize wl.getD i 0=x at*
  (repeat' (conv=>whnf);first|refine⟨i,_,rfl,hg,?_⟩|refine aC ?_ ?_<;>intro<;>try omega|refine z1_R1 ?_|fail);all_goals try (conv=>whnf)
  exact⟨i+1,[],by omega,by omega,by(exact aL)⟩
 ·(repeat' (conv=>whnf);first|refine aC ?_ ?_<;>intro<;>try omega|refine z1_R1 ?_|fail);all_goals try (conv=>whnf)
  exact⟨rfl,rfl⟩
theorem wghD_ok (wl:List Int) (N:Nat) (hN:N≤6) (hl:wl.length=N) (hw:∀c,c<N→1≤wl.getD c 0∧wl.getD c 0≤6000):Ctr Tryz.prog 269 [.psl 1 (ints wl)] [] (fun r o=>o=[]∧r= .bl true):=by
 refine fI 0 Tryz.func269 ?_
 have hil:=ints_len wl
 (repeat' (conv=>whnf);first|refine aC ?_ ?_<;>intro<;>try omega|refine z1_R1 ?_|fail);all_goals try (conv=>whnf)
 refine LoopOb.mk (Y:=Nat) (st:=fun i=>⟨[(7,i64 i),(6,i64 (ints wl).length),(5, .psl 1 (ints wl))],[]⟩)
  (inv:=fun i=>i≤N) (fun i=>N-i) 0 [] (by omega) (by(exact aL)) ?_
 rintro i hi
 (repeat' (conv=>whnf);first|refine z1_R1 ?_|fail);all_goals try (conv=>whnf)
 refine CondOb.mk (fun hlt=>?_) (fun hlt=>?_)
 ·have hg:=ints_get (l:=wl) (j:=i) (by omega)
  have hb:=hw i (by omega)
  generalize wl.getD i 0=x at*
  (repeat' (conv=>whnf);first|refine⟨i,_,rfl,hg,?_⟩|refine aC ?_ ?_<;>intro<;>try omega|refine z1_R1 ?_|fail);all_goals try (conv=>whnf)
  exact⟨i+1,[],by omega,by omega,by(exact aL)⟩
 ·(repeat' (conv=>whnf);first|refine aC ?_ ?_<;>intro<;>try omega|refine z1_R1 ?_|fail);all_goals try (conv=>whnf)
  exact⟨rfl,rfl⟩
theorem rRun_ok (p:List Pk) (c N T:Nat) (h:FitP p c N T) (wl:List Int) (hl:wl.length=N) (hw:∀c,c<N→1≤wl.getD c 0∧wl.getD c 0≤20):Ctr Tryz.prog 259 [i64 c, .psl 1 (ints wl), .psl 3 (pks p),i64 T] [] (fun r o=>o=[]∧RunR p.length (run (robinC wl) p c T).dn r):=by
 refine fI 0 Tryz.func259 ?_
 have h60:=h.hp.l
 have hn1:=h.n1
 have hil:=ints_len wl
 have hg:=ints_get (l:=wl) (j:=0) (by omega)
 (repeat' (conv=>whnf);first|refine aC ?_ ?_<;>intro<;>try omega|refine z1_R1 ?_|fail);all_goals try (conv=>whnf)
 refine aK [] (Validate_ok p (by omega)) ?_
 rw [h.vld]
 (repeat' (conv=>whnf);first|refine aC ?_ ?_<;>intro<;>try omega|refine z1_R1 ?_|fail);all_goals try (conv=>whnf)
 refine CallOb.mk [] (MChk_ok p c N T h) rfl ⟨Imp.refl _,Imp.num (by omega),Imp.refl _,Imp.refl _,trivial⟩ rfl rfl ?_
 rintro _ _ ⟨rfl,rfl⟩
 (repeat' (conv=>whnf);first|refine aC ?_ ?_<;>intro<;>try omega|refine z1_R1 ?_|fail);all_goals try (conv=>whnf)
 refine aK [] (wghR_ok wl N h.n2 hl hw) ?_
 (repeat' (conv=>whnf);first|refine aC ?_ ?_<;>intro<;>try omega|refine z1_R1 ?_|fail);all_goals try (conv=>whnf)
 refine DrawOb.cut [] (.qs [0,1,2] (.l 3 [2,0] (.l 4 [2,0] (.l 5 [2,0] (.l 6 [] .nil .no) .no) .no) (.l 4 [2,0] (.l 3 [2,0] (.l 5 [2,0] (.l 6 [] .nil .no) .no) .no) .no))) (Y:=Unit) (st:=fun _=>⟨[(13, .ptr 3 0),(12, .ptr 2 0),(8, .ptr 1 0),(5, .ptr 0 0),(0,i64 c),(1, .psl 1 (ints wl)),(2, .psl 3 (pks p)),(3,i64 T),(9,i64 0)],[.box [.psl 1 (ints wl)], .box [.nil, .nil], .box [i64 0], .box [i64 (wl.getD 0 0)]]⟩) (inv:=fun _=>True) (by decide+kernel) ?_ ?_
 ·(repeat' (conv=>whnf);first|refine And.intro ?_ ?_|refine⟨0,_,rfl,hg,?_⟩|refine aC ?_ ?_<;>intro<;>try omega|refine z1_R1 ?_|fail);all_goals try (conv=>whnf)
  ·exact⟨(),[0,1,2,3],trivial,by(exact aL)⟩
  ·exact⟨(),[0,1,3,2],trivial,by(exact aL)⟩
 rintro _ _
 (repeat' (conv=>whnf);first|refine aC ?_ ?_<;>intro<;>try omega|refine z2_J3 ?_|fail);all_goals try (conv=>whnf)
 refine .mk [.fb 0] ?_
 (repeat' (conv=>whnf);first|refine aC ?_ ?_<;>intro<;>try omega|refine z1_R1 ?_|fail);all_goals try (conv=>whnf)
 refine CallOb.mk [2,3] (MRunr_ok p h.hp c N T h.c1 h.c2 h.n1 h.n2 h.cl h.t wl ⟨hl,fun c hc=>by have:=hw c hc;omega⟩) rfl ⟨Imp.refl _,Imp.num (by omega),Imp.refl _,Imp.refl _,Imp.fn ⟨Imp.refl _,Imp.refl _,Imp.shut rfl,trivial⟩,trivial⟩ rfl rfl ?_
 rintro _ _ ⟨⟨s,rfl⟩,ms,hms,rfl⟩
 (repeat' (conv=>whnf);first|refine aC ?_ ?_<;>intro<;>try omega|refine z1_R1 ?_|fail);all_goals try (conv=>whnf)
 exact⟨rfl,_,⟨ms,hms,rfl⟩,rfl⟩
theorem dRun_ok (p:List Pk) (c N T:Nat) (h:FitP p c N T) (wl:List Int) (hl:wl.length=N) (hw:∀c,c<N→1≤wl.getD c 0∧wl.getD c 0≤6000):Ctr Tryz.prog 268 [i64 c, .psl 1 (ints wl), .psl 3 (pks p),i64 T] [] (fun r o=>o=[]∧RunR p.length (run (defC wl) p c T).dn r):=by
 refine fI 0 Tryz.func268 ?_
 have h60:=h.hp.l
 have hn1:=h.n1
 have hil:=ints_len wl
 (repeat' (conv=>whnf);first|refine aC ?_ ?_<;>intro<;>try omega|refine z1_R1 ?_|fail);all_goals try (conv=>whnf)
 refine aK [] (Validate_ok p (by omega)) ?_
 rw [h.vld]
 (repeat' (conv=>whnf);first|refine aC ?_ ?_<;>intro<;>try omega|refine z1_R1 ?_|fail);all_goals try (conv=>whnf)
 refine CallOb.mk [] (MChk_ok p c N T h) rfl ⟨Imp.refl _,Imp.num (by omega),Imp.refl _,Imp.refl _,trivial⟩ rfl rfl ?_
 rintro _ _ ⟨rfl,rfl⟩
 (repeat' (conv=>whnf);first|refine aC ?_ ?_<;>intro<;>try omega|refine z1_R1 ?_|fail);all_goals try (conv=>whnf)
 refine aK [] (wghD_ok wl N h.n2 hl hw) ?_
 (repeat' (conv=>whnf);first|refine⟨N,N,by omega,by omega,Nat.le_refl _,⟨by simp only;have:=h.n2;omega,by have:=h.n2;omega⟩,?_⟩|refine aC ?_ ?_<;>intro<;>try omega|refine z1_R1 ?_|fail);all_goals try (conv=>whnf)
 dsimp only [ofV]
 rw [show ofV1 (Value.int IntKind.i64 0)=i64 0 from rfl]
 rw [ivs_rep]
 refine CallOb.mk [2,1] (MRund_ok p h.hp c N T h.c1 h.c2 h.n1 h.n2 h.cl h.t wl ⟨hl,hw⟩) rfl ⟨Imp.refl _,Imp.num (by omega),Imp.refl _,Imp.refl _,Imp.refl _,trivial⟩ rfl rfl ?_
 rintro _ _ ⟨⟨s,rfl⟩,ms,hms,rfl⟩
 (repeat' (conv=>whnf);first|refine aC ?_ ?_<;>intro<;>try omega|refine z1_R1 ?_|fail);all_goals try (conv=>whnf)
 exact⟨rfl,_,⟨ms,hms,rfl⟩,rfl⟩
end
section
open Go.Sx Go.Pk Go.Mc Go.Np
def chL (l:Ln):Ch:=if l.k=1 then fifoC else if l.k=2 then prioC l.n.toNat else if l.k=3 then robinC l.w else if l.k=4 then defC l.w else slotC l.c.toNat l.s
theorem inR_get {l:List Int} {a b:Int} (h:inR l a b) {c:Nat} (hc:c<l.length):a≤l.getD c 0∧l.getD c 0≤b:=by
 rw [List.getD_eq_getElem?_getD,List.getElem?_eq_getElem hc]
 exact h _ (List.getElem_mem hc)
theorem lRun_fit {l:Ln} (h:lnErr l=0) {p:List Pk} {T:Nat} (hp:PL p) (hcl:∀i,i<p.length→0≤cl p i∧cl p i<l.n) (hT:T≤2000):
  FitP p l.c.toNat l.n.toNat T∧l.c=(l.c.toNat:Nat)∧l.n=(l.n.toNat:Nat)∧1≤l.k∧l.k≤5∧(l.k=3→l.w.length=l.n.toNat∧inR l.w 1 20)∧(l.k=4→l.w.length=l.n.toNat∧inR l.w 1 6000)∧(l.k=5→l.s≠[]∧l.s.length≤40):=by
 unfold lnErr at h
 split at h
 ·cases h
 split at h
 ·cases h
 unfold lsErr at h
 split at h
 ·cases h
 rename_i h1 h2 h3
 refine⟨⟨hp,by omega,by omega,by omega,by omega,fun i hi=>by have:=hcl i hi;omega,hT⟩,by omega,by omega,by omega,by omega,fun hk=>?_,fun hk=>?_,fun hk=>?_⟩
 ·have:(l.w.length:Int)=l.n∧inR l.w 1 20:=Classical.byContradiction fun hn=>h3 (.inl ⟨hk,hn⟩)
  exact⟨by omega,this.2⟩
 ·have:(l.w.length:Int)=l.n∧inR l.w 1 6000:=Classical.byContradiction fun hn=>h3 (.inr (.inl ⟨hk,hn⟩))
  exact⟨by omega,this.2⟩
 ·have:1≤l.s.length∧l.s.length≤40∧inR l.s (-1) (l.n-1):=Classical.byContradiction fun hn=>h3 (.inr (.inr ⟨hk,hn⟩))
  exact⟨fun e=>by rw [e]at this;have:=this.1;simp at this,this.2.1⟩
theorem Slots_ok (c:Int) (tb:List Int):Ctr Tryz.prog 275 [i64 c, .psl 1 (ints tb)] [] (fun r o=>o=[]∧r= .fn 276 [.pptr [.psl 1 (ints tb)], .pptr [i64 c]]):=by
 refine fI 0 Tryz.func275 ?_
 (repeat' (conv=>whnf);first|refine aC ?_ ?_<;>intro<;>try omega|refine z2_J3 ?_|fail);all_goals try (conv=>whnf)
 refine .mk [.fb 0, .fb 1] ?_
 (repeat' (conv=>whnf);first|refine aC ?_ ?_<;>intro<;>try omega|refine z1_R1 ?_|fail);all_goals try (conv=>whnf)
 exact⟨rfl,rfl⟩
theorem runF_ok (l:Ln) (p:List Pk) (T:Nat) (h:FitP p l.c.toNat l.n.toNat T) (hc:l.c=l.c.toNat) (hn:l.n=l.n.toNat):Ctr Tryz.prog 243 [.agg [],lv l, .psl 3 (pks p),i64 T] [] (fun r o=>o=[]∧RunR p.length (run fifoC p l.c.toNat T).dn r):=by
 refine fI 0 Tryz.func243 ?_
 (repeat' (conv=>whnf);first|refine aC ?_ ?_<;>intro<;>try omega|refine z1_R1 ?_|fail);all_goals try (conv=>whnf)
 refine CallOb.mk [] (fRun_ok p _ _ T h) rfl ⟨Imp.num (by omega),Imp.num (by omega),Imp.refl _,Imp.refl _,trivial⟩ rfl rfl ?_
 rintro _ _ ⟨rfl,x,⟨ms,hms,rfl⟩,rfl⟩
 (repeat' (conv=>whnf);first|refine aC ?_ ?_<;>intro<;>try omega|refine z1_R1 ?_|fail);all_goals try (conv=>whnf)
 exact⟨rfl,_,⟨ms,hms,rfl⟩,rfl⟩
theorem runP_ok (l:Ln) (p:List Pk) (T:Nat) (h:FitP p l.c.toNat l.n.toNat T) (hc:l.c=l.c.toNat) (hn:l.n=l.n.toNat):Ctr Tryz.prog 251 [.agg [],lv l, .psl 3 (pks p),i64 T] [] (fun r o=>o=[]∧RunR p.length (run (prioC l.n.toNat) p l.c.toNat T).dn r):=by
 refine fI 0 Tryz.func251 ?_
 (repeat' (conv=>whnf);first|refine aC ?_ ?_<;>intro<;>try omega|refine z1_R1 ?_|fail);all_goals try (conv=>whnf)
 refine CallOb.mk [] (pRun_ok p _ _ T h) rfl ⟨Imp.num (by omega),Imp.num (by omega),Imp.refl _,Imp.refl _,trivial⟩ rfl rfl ?_
 rintro _ _ ⟨rfl,x,⟨ms,hms,rfl⟩,rfl⟩
 (repeat' (conv=>whnf);first|refine aC ?_ ?_<;>intro<;>try omega|refine z1_R1 ?_|fail);all_goals try (conv=>whnf)
 exact⟨rfl,_,⟨ms,hms,rfl⟩,rfl⟩
theorem runR_ok (l:Ln) (p:List Pk) (T:Nat) (h:FitP p l.c.toNat l.n.toNat T) (hc:l.c=l.c.toNat) (hn:l.n=l.n.toNat) (hw:l.w.length=l.n.toNat∧inR l.w 1 20):Ctr Tryz.prog 257 [.agg [],lv l, .psl 3 (pks p),i64 T] [] (fun r o=>o=[]∧RunR p.length (run (robinC l.w) p l.c.toNat T).dn r):=by
 refine fI 0 Tryz.func257 ?_
 (repeat' (conv=>whnf);first|refine aC ?_ ?_<;>intro<;>try omega|refine z1_R1 ?_|fail);all_goals try (conv=>whnf)
 refine CallOb.mk [] (rRun_ok p _ _ T h l.w hw.1 (fun c hc=>inR_get hw.2 (by omega))) rfl ⟨Imp.num (by omega),Imp.refl _,Imp.refl _,Imp.refl _,trivial⟩ rfl rfl ?_
 rintro _ _ ⟨rfl,x,⟨ms,hms,rfl⟩,rfl⟩
 (repeat' (conv=>whnf);first|refine aC ?_ ?_<;>intro<;>try omega|refine z1_R1 ?_|fail);all_goals try (conv=>whnf)
 exact⟨rfl,_,⟨ms,hms,rfl⟩,rfl⟩
theorem runD_ok (l:Ln) (p:List Pk) (T:Nat) (h:FitP p l.c.toNat l.n.toNat T) (hc:l.c=l.c.toNat) (hn:l.n=l.n.toNat) (hw:l.w.length=l.n.toNat∧inR l.w 1 6000):Ctr Tryz.prog 267 [.agg [],lv l, .psl 3 (pks p),i64 T] [] (fun r o=>o=[]∧RunR p.length (run (defC l.w) p l.c.toNat T).dn r):=by
 refine fI 0 Tryz.func267 ?_
 (repeat' (conv=>whnf);first|refine aC ?_ ?_<;>intro<;>try omega|refine z1_R1 ?_|fail);all_goals try (conv=>whnf)
 refine CallOb.mk [] (dRun_ok p _ _ T h l.w hw.1 (fun c hc=>inR_get hw.2 (by omega))) rfl ⟨Imp.num (by omega),Imp.refl _,Imp.refl _,Imp.refl _,trivial⟩ rfl rfl ?_
 rintro _ _ ⟨rfl,x,⟨ms,hms,rfl⟩,rfl⟩
 (repeat' (conv=>whnf);first|refine aC ?_ ?_<;>intro<;>try omega|refine z1_R1 ?_|fail);all_goals try (conv=>whnf)
 exact⟨rfl,_,⟨ms,hms,rfl⟩,rfl⟩
theorem z3_S5 {G H:Prop} (k:H) (h:H→G:=by first|exact fun r=>aS r|exact fun r=>aG r|exact fun r=>aD r|exact fun r=>aH r|exact fun r=>aP_R1 r|exact fun r=>aI r|exact fun r=>aJ r|exact fun r=>aW (.qs [0,1,2,3,4,5,6,7,8,9] (.l 10 [3,1] (.l 11 [] (.l 12 [] (.qs [13] .nil) .no) .no) .no)) r):G:=h k
theorem runS_ok (l:Ln) (p:List Pk) (T:Nat) (h:FitP p l.c.toNat l.n.toNat T) (hc:l.c=l.c.toNat) (hn:l.n=l.n.toNat) (hs:l.s≠[]∧l.s.length≤40):Ctr Tryz.prog 274 [.agg [],lv l, .psl 3 (pks p),i64 T] [] (fun r o=>o=[]∧RunR p.length (run (slotC l.c.toNat l.s) p l.c.toNat T).dn r):=by
 refine fI 0 Tryz.func274 ?_
 have h60:=h.hp.l
 (repeat' (conv=>whnf);first|refine aC ?_ ?_<;>intro<;>try omega|refine z3_S5 ?_|fail);all_goals try (conv=>whnf)
 refine aK [] (Validate_ok p (by omega)) ?_
 rw [h.vld]
 (repeat' (conv=>whnf);first|refine aC ?_ ?_<;>intro<;>try omega|refine z3_S5 ?_|fail);all_goals try (conv=>whnf)
 refine CallOb.mk [] (MChk_ok p _ _ T h) rfl ⟨Imp.num (by omega),Imp.num (by omega),Imp.refl _,Imp.refl _,trivial⟩ rfl rfl ?_
 rintro _ _ ⟨rfl,rfl⟩
 (repeat' (conv=>whnf);first|refine aC ?_ ?_<;>intro<;>try omega|refine z3_S5 ?_|fail);all_goals try (conv=>whnf)
 refine CallOb.mk [] (Slots_ok (l.c.toNat:Nat) l.s) rfl ⟨Imp.num (by omega),Imp.refl _,trivial⟩ rfl rfl ?_
 rintro _ _ ⟨rfl,rfl⟩
 (repeat' (conv=>whnf);first|refine aC ?_ ?_<;>intro<;>try omega|refine z3_S5 ?_|(refine CallOb.mk [] (MRuns_ok p h.hp _ _ T h.c1 h.c2 h.n1 h.n2 h.cl h.t l.s hs.1 (by omega)) rfl ⟨Imp.num (by omega),Imp.num (by omega),Imp.refl _,Imp.refl _,Imp.fn ⟨Imp.shut rfl,Imp.shut rfl,trivial⟩,trivial⟩ rfl rfl ?_;rintro _ _ ⟨rfl,ms,hms,rfl⟩)|fail);all_goals try (conv=>whnf)
 exact⟨rfl,_,⟨ms,hms,rfl⟩,rfl⟩
theorem lRun_ok (l:Ln) (hl:LL l) (he:lnErr l=0) (p:List Pk) (T:Nat) (hp:PL p) (hcl:∀i,i<p.length→0≤cl p i∧cl p i<l.n) (hT:T≤2000):Ctr Tryz.prog 104 [lv l, .psl 3 (pks p),i64 T] [] (fun r o=>o=[]∧RunR p.length (run (chL l) p l.c.toNat T).dn r):=by
 refine fI 0 Tryz.func104 ?_
 obtain⟨h,hc,hn,k1,k5,hr,hd,hs⟩:=lRun_fit he hp hcl hT
 (repeat' (conv=>whnf);first|refine aC ?_ ?_<;>intro<;>try omega|refine z1_R1 ?_|fail);all_goals try (conv=>whnf)
 refine aK [] (lCheck_ok l hl) ?_
 rw [he]
 (repeat' (conv=>whnf);first|refine aC ?_ ?_<;>intro<;>try omega|refine z1_R1 ?_|fail);all_goals try (conv=>whnf)
 refine aM [] (kind_ok l.k) rfl rfl ?_
 rintro _ _ ⟨⟨s,b⟩,hk,rfl,rfl⟩
 dsimp only at hk⊢
 rcases hk with⟨hk,hs2⟩|⟨hk,hs2⟩|⟨hk,hs2⟩|⟨hk,hs2⟩|⟨hk,hs2⟩|⟨hk,hs2⟩
 ·omega
 ·cases hs2
  have e:chL l=fifoC:=if_pos hk
  rw [e]
  (repeat' (conv=>whnf);first|refine aC ?_ ?_<;>intro<;>try omega|refine z1_R1 ?_|refine InvOb.mk 243 (by decide+kernel) ?_|(refine aM [] (runF_ok l p T h hc hn) rfl rfl ?_;rintro _ _ ⟨rfl,x,⟨ms,hms,rfl⟩,rfl⟩)|fail);all_goals try (conv=>whnf)
  exact⟨rfl,_,⟨ms,hms,rfl⟩,rfl⟩
 ·cases hs2
  have e:chL l=prioC l.n.toNat:=by unfold chL;rw [if_neg (by omega),if_pos hk]
  rw [e]
  (repeat' (conv=>whnf);first|refine aC ?_ ?_<;>intro<;>try omega|refine z1_R1 ?_|refine InvOb.mk 251 (by decide+kernel) ?_|(refine aM [] (runP_ok l p T h hc hn) rfl rfl ?_;rintro _ _ ⟨rfl,x,⟨ms,hms,rfl⟩,rfl⟩)|fail);all_goals try (conv=>whnf)
  exact⟨rfl,_,⟨ms,hms,rfl⟩,rfl⟩
 ·cases hs2
  have e:chL l=robinC l.w:=by unfold chL;rw [if_neg (by omega),if_neg (by omega),if_pos hk]
  rw [e]
  (repeat' (conv=>whnf);first|refine aC ?_ ?_<;>intro<;>try omega|refine z1_R1 ?_|refine InvOb.mk 257 (by decide+kernel) ?_|(refine aM [] (runR_ok l p T h hc hn (hr hk)) rfl rfl ?_;rintro _ _ ⟨rfl,x,⟨ms,hms,rfl⟩,rfl⟩)|fail);all_goals try (conv=>whnf)
  exact⟨rfl,_,⟨ms,hms,rfl⟩,rfl⟩
 ·cases hs2
  have e:chL l=defC l.w:=by unfold chL;rw [if_neg (by omega),if_neg (by omega),if_neg (by omega),if_pos hk]
  rw [e]
  (repeat' (conv=>whnf);first|refine aC ?_ ?_<;>intro<;>try omega|refine z1_R1 ?_|refine InvOb.mk 267 (by decide+kernel) ?_|(refine aM [] (runD_ok l p T h hc hn (hd hk)) rfl rfl ?_;rintro _ _ ⟨rfl,x,⟨ms,hms,rfl⟩,rfl⟩)|fail);all_goals try (conv=>whnf)
  exact⟨rfl,_,⟨ms,hms,rfl⟩,rfl⟩
 ·cases hs2
  have e:chL l=slotC l.c.toNat l.s:=by unfold chL;rw [if_neg (by omega),if_neg (by omega),if_neg (by omega),if_neg (by omega)]
  rw [e]
  (repeat' (conv=>whnf);first|refine aC ?_ ?_<;>intro<;>try omega|refine z1_R1 ?_|refine InvOb.mk 274 (by decide+kernel) ?_|(refine aM [] (runS_ok l p T h hc hn (hs hk)) rfl rfl ?_;rintro _ _ ⟨rfl,x,⟨ms,hms,rfl⟩,rfl⟩)|fail);all_goals try (conv=>whnf)
  exact⟨rfl,_,⟨ms,hms,rfl⟩,rfl⟩
end
end Go.Proofs.YtjhmjiimpmmnhaaGreat
