/- Lemmas of this seat. Conditions: as stated. -/
import Derived.Test.YtaomhdljcdadaaaGreatQd
import Derived.Test.YtaomhdljcdadaaaGreatSo4
import Derived.Test.YtaomhdljcdadaaaGreatMre
set_option linter.unusedVariables false
set_option linter.unusedSimpArgs false
set_option maxHeartbeats 2000000
set_option maxRecDepth 4000
namespace Go.Proofs.YtaomhdljcdadaaaGreat
open Go.Sx Go.Pk Go.Mc Go.Np
def svs (m:Nat) (f:Nat→SV):List (List SV):=(List.range m).map fun j=>[f j]
theorem svs_len (m:Nat) (f:Nat→SV):(svs m f).length =m:=by simp [svs]
theorem svs_get {m b:Nat} {f:Nat→SV} (h:b<m):(svs m f)[b]? =some [f b]:=by simp [svs,h]
theorem svs_set {m b:Nat} {f:Nat→SV} {v:SV}:(svs m f).set b [v]=svs m (upd f b v):=map_upd (g:=fun x=>[x])
theorem svs_rep (m:Nat) (v:SV):List.replicate m [v]=svs m fun _=>v:=by
 apply List.ext_getElem?;intro j
 by_cases h:j<m<;>simp [svs,h]
structure VaL (F:Tf) (Z:Li) (N:Nat) (D:Tp) (l:Nat) (d w:SV):Prop where
 w:w= .psl 1 (ints (ixs (qu F D l)))
 d:d= .psl 1 (ivs (qu F D l).length (run (Z.C l) (pkq F (qu F D l)) (Z.c l) N).dn)
structure RoI (n:Nt) (p:List Pk) (N T:Nat) (ms:List (List Int)) (dF wF:Nat→SV) (fr:Nat→Bool):Prop where
 tt:T≤N
 sh:ShM (toF n p) N ms
 ct:CT (toF n p) (liN n) N T (dR ms)
 v:∀l,l<n.ln.length→fr l=true→VaL (toF n p) (liN n) N (dR ms) l (dF l) (wF l)
theorem z2_Q2 {G H:Prop} (k:H) (h:H→G:=by first|exact fun r=>aS r|exact fun r=>aG r|exact fun r=>aD r|exact fun r=>aP_T1 r|exact fun r=>aI r|exact fun r=>aJ r|exact fun r=>aW (.qs [0,1,2,3,4,5,6,7,8,9,10,11,12] (.l 13 [] (.qs [14] .nil) .no)) r|exact fun r=>aW (.qs [0,1,2,3,4,5,6,7,8,9,10,11,12,13,14,15,16,17,18,19,20,21,22,23,24,25,26,27] .nil) r|exact fun r=>aW (.qs [0,1,2,3,4,5,6,7,8,9,10] .nil) r|exact fun r=>aW (.qs [0,1,2,3,4,5,6] (.l 7 [] (.qs [8] .nil) .no)) r):G:=h k
theorem z1_Q2 {G H:Prop} (k:H) (h:H→G:=by first|exact fun r=>aS r|exact fun r=>aG r|exact fun r=>aD r|exact fun r=>aH r|exact fun r=>aP_T1 r|exact fun r=>aI r|exact fun r=>aJ r|exact fun r=>aW (.qs [0,1,2,3,4,5,6,7,8,9,10,11,12] (.l 13 [] (.qs [14] .nil) .no)) r|exact fun r=>aW (.qs [0,1,2,3,4,5,6,7,8,9,10,11,12,13,14,15,16,17,18,19,20,21,22,23,24,25,26,27] .nil) r|exact fun r=>aW (.qs [0,1,2,3,4,5,6,7,8,9,10] .nil) r|exact fun r=>aW (.qs [0,1,2,3,4,5,6] (.l 7 [] (.qs [8] .nil) .no)) r):G:=h k
theorem RRun_ok (n:Nt) (hn:NL n) (p:List Pk) (h:SkP n p) (N:Nat) (hN:N≤2000):
  Ctr Tryz.prog 16 [ntv n, .psl 3 (pks p),i64 N] [] (fun r o=>o=[]∧r= .tup [.agg [.psl 1 (trs (trR (toF n p) (liN n) N))],i64 0]):=by
 refine fI 0 Tryz.func16 ?_
 have h60:=h.l
 have hpl:=pks_len p
 have hlnl:=lnl n.ln
 have hc8:=chk_n h.h
 (repeat' (conv=>whnf);first|refine aC ?_ ?_<;>intro<;>try omega|refine z1_Q2 ?_|fail);all_goals try (conv=>whnf)
 refine aK [] (RChk_ok n hn p (by omega)) ?_
 rw [sck_zero.2 h]
 (repeat' (conv=>whnf);first|refine aC ?_ ?_<;>intro<;>try omega|refine z1_Q2 ?_|fail);all_goals try (conv=>whnf)
 refine aK [] (REmp_ok n hn p h) ?_
 (repeat' (conv=>whnf);first|refine aC ?_ ?_<;>intro<;>try omega|refine aS ?_|refine aG ?_|refine aD ?_|refine aH ?_|refine aP_T1 ?_|refine aI ?_|refine aJ ?_|refine⟨_,_,rfl,rfl,Nat.le_refl _,⟨by(simp only;omega),by omega⟩,?_⟩|refine aW (.qs [0,1,2,3,4,5,6,7,8,9,10,11,12] (.l 13 [] (.qs [14] .nil) .no)) ?_|refine aW (.qs [0,1,2,3,4,5,6,7,8,9,10,11,12,13,14,15,16,17,18,19,20,21,22,23,24,25,26,27] .nil) ?_|refine aW (.qs [0,1,2,3,4,5,6,7,8,9,10] .nil) ?_|refine aW (.qs [0,1,2,3,4,5,6] (.l 7 [] (.qs [8] .nil) .no)) ?_|fail);all_goals try (conv=>whnf)
 have hr0:List.replicate (lns n.ln).length [SV.nil]=svs n.ln.length fun _=> .nil :=by rw [hlnl];exact svs_rep _ _
 have hr1:List.replicate (lns n.ln).length [SV.bl false]=bls n.ln.length fun _=>false:=by rw [hlnl];exact bls_rep _ _
 refine LoopOb.mk (Y:=Nat×List (List Int)×(Nat→SV)×(Nat→SV)×(Nat→Bool)) (st:=fun y=>⟨[(9, .ptr 3 0),(10, .vec 4),(11, .vec 5),(12, .vec 6),(3, .ptr 0 0),(6, .ptr 1 0),(1, .psl 3 (pks p)),(2,i64 N)],[nbx n, .box [.nil], .mat 1 (mtz y.2.1), .box [.vec 2], .vec 1 (svs n.ln.length y.2.2.1), .vec 1 (svs n.ln.length y.2.2.2.1), .vec 1 (bls n.ln.length y.2.2.2.2)]⟩)
  (inv:=fun y=>RoI n p N y.1 y.2.1 y.2.2.1 y.2.2.2.1 y.2.2.2.2) (fun y=>N+1-y.1) (0,emR n p p.length,fun _=> .nil,fun _=> .nil,fun _=>false) [0,1,5,6,7,8,9] ⟨Nat.zero_le _,(emR_sh (N:=N)).1,CT.zero (emR_sh (N:=N)).2,fun l _ h=>by cases h⟩ (by dsimp only;rw [←hr0,←hr1];(exact aL)) ?_
 rintro⟨T,ms,dF,wF,fr⟩ hI
 dsimp only at hI⊢
 obtain⟨hT,hsh,hct,hv⟩:=hI
 have hms:ms.length=p.length:=hsh.l
 have hML:=MsL.of h hN hsh
 (repeat' (conv=>whnf);first|refine aC ?_ ?_<;>intro<;>try omega|refine aS ?_|refine aG ?_|refine aD ?_|refine aH ?_|refine aP_T1 ?_|refine aI ?_|refine aJ ?_|refine⟨_,_,rfl,rfl,Nat.le_refl _,⟨by(simp only;omega),by omega⟩,?_⟩|refine aW (.qs [0,1,2,3,4,5,6,7,8,9,10,11,12] (.l 13 [] (.qs [14] .nil) .no)) ?_|refine aW (.qs [0,1,2,3,4,5,6,7,8,9,10,11,12,13,14,15,16,17,18,19,20,21,22,23,24,25,26,27] .nil) ?_|refine aW (.qs [0,1,2,3,4,5,6,7,8,9,10] .nil) ?_|refine aW (.qs [0,1,2,3,4,5,6] (.l 7 [] (.qs [8] .nil) .no)) ?_|fail);all_goals try (conv=>whnf)
 refine LoopOb.mk (Y:=Nat×(Nat→SV)×(Nat→SV)×(Nat→Bool)) (st:=fun y=>⟨[(13,i64 y.1),(9, .ptr 3 0),(10, .vec 4),(11, .vec 5),(12, .vec 6),(3, .ptr 0 0),(6, .ptr 1 0),(1, .psl 3 (pks p)),(2,i64 N)],[nbx n, .box [.nil], .mat 1 (mtz ms), .box [.vec 2], .vec 1 (svs n.ln.length y.2.1), .vec 1 (svs n.ln.length y.2.2.1), .vec 1 (bls n.ln.length y.2.2.2)]⟩)
  (inv:=fun y=>y.1≤n.ln.length∧RoI n p N T ms y.2.1 y.2.2.1 y.2.2.2∧∀l,l<y.1→y.2.2.2 l=true) (fun y=>n.ln.length-y.1) (0,dF,wF,fr) [0,1,2,3,4,5,6] ⟨Nat.zero_le _,⟨hT,hsh,hct,hv⟩,fun l hl=>by omega⟩ (by(exact aL)) ?_
 clear hv
 clear dF wF fr
 rintro⟨i,dF,wF,fr⟩ ⟨hi,⟨_,_,_,hv⟩,hfr⟩
 dsimp only at hi hv hfr⊢
 have hb1:=bls_len n.ln.length fr
 have hs1:=svs_len n.ln.length dF
 have hs2:=svs_len n.ln.length wF
 by_cases hil:i<n.ln.length
 ·have hgb:=bls_get (f:=fr) hil
  have hlg:=lng (l:=n.ln) (i:=i) hil
  have hLL:LL (n.ln.getD i ln0):=by
   obtain⟨a,b⟩:=hn.lw _ (getD_in hil)
   exact⟨a,b⟩
  have hle:=chk_ln h.h hil
  obtain⟨hPL,hcl⟩:=qu_PL h hN hsh (l:=i)
  have hqe:quL n p (dR ms) i p.length=qu (toF n p) (dR ms) i:=quL_nat p.length
  have hnx:fr i=true→∀l,l<i+1→fr l=true:=fun h l hl=>by
   by_cases e:l=i
   ·subst e;exact h
   ·exact hfr l (by omega)
  cases hfi:fr i with
  |true=>
   rw [hfi]at hgb
   (repeat' (conv=>whnf);first|refine⟨_,hgb,?_⟩|refine⟨i,rfl,by omega,?_⟩|refine aC ?_ ?_<;>intro<;>try omega|refine z1_Q2 ?_|fail);all_goals try (conv=>whnf)
   exact⟨(i+1,dF,wF,fr),[0,1,2,3,4,5,6],⟨by dsimp only;omega,⟨hT,hsh,hct,hv⟩,hnx hfi⟩,by dsimp only;omega,by(exact aL)⟩
  |false=>
   rw [hfi]at hgb
   (repeat' (conv=>whnf);first|refine⟨_,hgb,?_⟩|refine⟨i,rfl,by omega,?_⟩|refine aC ?_ ?_<;>intro<;>try omega|refine z1_Q2 ?_|fail);all_goals try (conv=>whnf)
   refine aK [2] (RQuM_ok n hn p h60 h.rt ms hML i) ?_
   rw [hqe]
   have hql:=qu_len n p (dR ms) i
   have hpkl:=pkq_len (toF n p) (qu (toF n p) (dR ms) i)
   have cS:=RSnd_ok (n.ln.getD i ln0) hLL hle (pkq (toF n p) (qu (toF n p) (dR ms) i)) N hPL hcl hN
   (repeat' (conv=>whnf);first|refine⟨i,_,rfl,hlg,?_⟩|refine aC ?_ ?_<;>intro<;>try omega|refine z2_Q2 ?_|fail);all_goals try (conv=>whnf)
   refine .mk [.fz 7, .fz 8] ?_
   (repeat' (conv=>whnf);first|refine⟨_,hgb,?_⟩|refine⟨_,svs_get hil,?_⟩|refine⟨i,rfl,by omega,?_⟩|refine⟨i,_,rfl,hlg,?_⟩|refine aC ?_ ?_<;>intro<;>try omega|refine z1_Q2 ?_|(refine aM [] cS rfl rfl ?_;rintro _ _ ⟨rfl,x,⟨ms',hms',rfl⟩,rfl⟩)|fail);all_goals try (conv=>whnf)
   generalize hsd:SV.psl 1 (ivs (pkq (toF n p) (qu (toF n p) (dR ms) i)).length (run (chL (n.ln.getD i ln0)) (pkq (toF n p) (qu (toF n p) (dR ms) i)) (n.ln.getD i ln0).c.toNat N).dn)=sd
   generalize hsw:SV.psl 1 (ints (ixs (qu (toF n p) (dR ms) i)))=sw
   have hva:VaL (toF n p) (liN n) N (dR ms) i sd sw:=⟨hsw.symm,by rw [←hsd,hpkl];rfl⟩
   refine⟨(i+1,upd dF i sd,upd wF i sw,upd fr i true),[0,1,2,3,4,5,6],⟨by dsimp only;omega,⟨hT,hsh,hct,fun l hl hf=>?_⟩,fun l hl=>?_⟩,by dsimp only;omega,by dsimp only;rw [←svs_set,←svs_set,←bls_set];(exact aL)⟩
   ·by_cases e:l=i
    ·subst e
     simp only [upd_same];exact hva
    ·simp only [upd_ne e]at hf⊢;exact hv l hl hf
   ·by_cases e:l=i
    ·subst e;exact upd_same
    ·simp only [upd_ne e];exact hfr l (by dsimp only at hl;omega)
 ·obtain rfl:i=n.ln.length:=by omega
  (repeat' (conv=>whnf);first|refine aC ?_ ?_<;>intro<;>try omega|refine z1_Q2 ?_|fail);all_goals try (conv=>whnf)
  have hvv:∀l,l<n.ln.length→VaL (toF n p) (liN n) N (dR ms) l (dF l) (wF l):=fun l hl=>hv l hl (hfr l hl)
  have hRts:=h.rts
  have hLn:∀i k,i<(toF n p).np →k<((toF n p).rt i).length →lin (toF n p) i k<(liN n).n :=fun i k hi hk=>(h.lnn hi hk).2
  clear hv hb1
  refine LoopOb.mk (Y:=Nat×Int) (st:=fun y=>⟨[(19,i64 y.1),(18,i64 y.2),(9, .ptr 3 0),(10, .vec 4),(11, .vec 5),(12, .vec 6),(3, .ptr 0 0),(6, .ptr 1 0),(1, .psl 3 (pks p)),(2,i64 N)],[nbx n, .box [.nil], .mat 1 (mtz ms), .box [.vec 2], .vec 1 (svs n.ln.length dF), .vec 1 (svs n.ln.length wF), .vec 1 (bls n.ln.length fr)]⟩)
   (inv:=fun y=>y.1≤n.ln.length∧y.2≤2000∧LeI (toF n p) (liN n) N (dR ms) (fun l _=>l<y.1) y.2) (fun y=>n.ln.length-y.1) (0,-1) [0,1,2,3,4,5,6] ⟨Nat.zero_le _,by decide,⟨Int.le_refl _,fun l x hl=>by dsimp only at hl;omega,fun h0=>by dsimp only at h0;omega⟩⟩ (by(exact aL)) ?_
  rintro⟨i,L⟩ ⟨hi,hL2,hLe⟩
  dsimp only at hi hL2 hLe⊢
  have hlo:=hLe.lo
  by_cases hil:i<n.ln.length
  ·obtain⟨vw,vd⟩:=hvv i hil
   have hql:=qu_len n p (dR ms) i
   have hqo:=qu_ok (toF n p) (dR ms) i
   have gw:=svs_get (f:=wF) hil
   have gd:=svs_get (f:=dF) hil
   rw [vw]at gw
   rw [vd]at gd
   have hqx:∀k (hk:k<(qu (toF n p) (dR ms) i).length),_:=fun k hk=>h.qu hN (fun i k hi hk=>(hsh.b i k hi hk).2) (l:=i) (List.getElem_mem hk)
   have hpa:∀k (hk:k<(qu (toF n p) (dR ms) i).length),_:=fun k hk=>pas_at hqo (liN n) N hk
   generalize qu (toF n p) (dR ms) i=q at*
   have hix:=ints_len (ixs q)
   rw [ixs_len]at hix
   have hdl:=ivs_len q.length (run ((liN n).C i) (pkq (toF n p) q) ((liN n).c i) N).dn
   (repeat' (conv=>whnf);first|refine aC ?_ ?_<;>intro<;>try omega|refine z1_Q2 ?_|fail);all_goals try (conv=>whnf)
   refine LoopOb.mk (Y:=Nat×Int) (st:=fun y=>⟨[(20,i64 y.1),(18,i64 y.2),(19,i64 i),(9, .ptr 3 0),(10, .vec 4),(11, .vec 5),(12, .vec 6),(3, .ptr 0 0),(6, .ptr 1 0),(1, .psl 3 (pks p)),(2,i64 N)],[nbx n, .box [.nil], .mat 1 (mtz ms), .box [.vec 2], .vec 1 (svs n.ln.length dF), .vec 1 (svs n.ln.length wF), .vec 1 (bls n.ln.length fr)]⟩)
    (inv:=fun y=>y.1≤q.length∧y.2≤2000∧LeI (toF n p) (liN n) N (dR ms) (SQ q i y.1) y.2) (fun y=>q.length-y.1) (0,L) [0,1,2,3,4,5,6] ⟨Nat.zero_le _,hL2,hLe.weak fun l x hs=> .inl ((SQ.zero q i l x).1 hs)⟩ (by(exact aL)) ?_
   clear hLe hlo hL2
   clear L
   rintro⟨k,L⟩ ⟨hk,hL2,hLe⟩
   dsimp only at hk hL2 hLe⊢
   have hlo:=hLe.lo
   by_cases hkl:k<q.length
   ·obtain⟨x1,_,_,_,_,_,_,kk,hkk⟩:=hqx k hkl
    obtain⟨h1,h2⟩:=hp_some hkk
    have hpk:=hpa k hkl
    have hnx:=SQ.next (i:=i) hkl
    have gx:=ints_get (l:=ixs q) (j:=k) (by rw [←ixs_len q]at hkl;simpa using hkl)
    have hix2:(ixs q).getD k 0=(q[k].i :Int):=by simp [ixs,hkl]
    rw [hix2]at gx
    have gdk:=ivs_get (f:=(run ((liN n).C i) (pkq (toF n p) q) ((liN n).c i) N).dn) hkl
    rw [←hpk]at gdk
    have gp:=pks_get (l:=p) (j:=q[k].i) x1
    have hop':=hop_hp h.rt (l:=i) x1
    rw [hkk]at hop'
    dsimp only at hop'
    have hrl:=hsh.r q[k].i x1
    have hgr:=mtz_get (ms:=ms) (c:=q[k].i) (by omega)
    have hgv:=ints_get (l:=ms.getD q[k].i []) (j:=kk) (by omega)
    have hrln:=ints_len (ms.getD q[k].i [])
    have hml:=(mtz_len ms).trans hms
    have eD:(ms.getD q[k].i []).getD kk 0=dR ms q[k].i kk:=getD_dflt (by omega)
    rw [eD]at hgv
    have hbd:=hsh.b q[k].i kk x1 h1
    have hvb: -1≤pas (toF n p) (liN n) N (dR ms) i q[k].i ∧pas (toF n p) (liN n) N (dR ms) i q[k].i <2000:=by
     have:=pas_bd (toF n p) (liN n) N (dR ms) i q[k].i
     omega
    have hput:=fun a b c=>hLe.put (k:=kk) x1 hkk hnx a b c
    have hskip:=fun c=>hLe.skip (k:=kk) hkk hnx c
    generalize q[k].i =x at*
    generalize pas (toF n p) (liN n) N (dR ms) i x=v at*
    generalize dR ms x kk=dv at*
    generalize ms.getD x []=row at*
    clear hpk
    (repeat' (conv=>whnf);first|refine⟨k,_,rfl,gdk,?_⟩|refine⟨x,_,rfl,gp,?_⟩|refine⟨k,_,rfl,gx,?_⟩|refine aC ?_ ?_<;>intro<;>try omega|refine z1_Q2 ?_|refine⟨i,rfl,by omega,?_⟩|refine⟨_,gw,?_⟩|refine⟨_,gd,?_⟩|(refine aK [] (rHop_ok n hn (p.getD x pk0).f i) ?_;rw [hop'])|refine⟨x,rfl,by omega,?_⟩|refine And.intro (show x<(mtz ms).length by omega) ?_|refine⟨kk,_,rfl,hgr,by omega,?_⟩|refine⟨_,_,hgr,hgv,?_⟩|fail);all_goals try (conv=>whnf)
    ·exact⟨(k+1,v),[0,1,2,3,4,5,6],⟨by dsimp only;omega,by dsimp only;omega,hput (by omega) (by omega) (by omega)⟩,by dsimp only;omega,by(exact aL)⟩
    ·exact⟨(k+1,v),[0,1,2,3,4,5,6],⟨by dsimp only;omega,by dsimp only;omega,hput (by omega) (by omega) (by omega)⟩,by dsimp only;omega,by(exact aL)⟩
    all_goals exact⟨(k+1,L),[0,1,2,3,4,5,6],⟨by dsimp only;omega,hL2,hskip (by omega)⟩,by dsimp only;omega,by(exact aL)⟩
   ·obtain rfl:k=q.length:=by omega
    (repeat' (conv=>whnf);first|refine aC ?_ ?_<;>intro<;>try omega|refine z1_Q2 ?_|refine⟨i,rfl,by omega,?_⟩|refine⟨_,gw,?_⟩|fail);all_goals try (conv=>whnf)
    exact⟨(i+1,L),[0,1,2,3,4,5,6],⟨by dsimp only;omega,hL2,hLe.weak fun l x hl=>SQ.done hqo l x hl⟩,by dsimp only;omega,by(exact aL)⟩
  ·obtain rfl:i=n.ln.length:=by omega
   by_cases hL0:L<0
   ·have hfin:=trR_eq hsh.l hsh.r (hLe.end0 hRts hct hLn hL0)
    rw [hfin]
    (repeat' (conv=>whnf);first|refine aC ?_ ?_<;>intro<;>try omega|refine z2_Q2 ?_|fail);all_goals try (conv=>whnf)
    refine .mk [.fm 2] ?_
    (repeat' (conv=>whnf);first|refine aC ?_ ?_<;>intro<;>try omega|refine z2_Q2 ?_|fail);all_goals try (conv=>whnf)
    exact⟨rfl,rfl⟩
   obtain⟨K,rfl,hTK,hKN,hcK⟩:=hLe.end1 hRts hct hLn (by omega)
   clear hLe hct hlo hL2 hL0
   (repeat' (conv=>whnf);first|refine aC ?_ ?_<;>intro<;>try omega|refine z1_Q2 ?_|fail);all_goals try (conv=>whnf)
   refine LoopOb.mk (Y:=Nat×(Nat→Bool)) (st:=fun y=>⟨[(23,i64 y.1),(18,i64 K),(9, .ptr 3 0),(10, .vec 4),(11, .vec 5),(12, .vec 6),(3, .ptr 0 0),(6, .ptr 1 0),(1, .psl 3 (pks p)),(2,i64 N)],[nbx n, .box [.nil], .mat 1 (mtz (rdM (toF n p) (liN n) N ms K fun l _=>l<y.1)), .box [.vec 2], .vec 1 (svs n.ln.length dF), .vec 1 (svs n.ln.length wF), .vec 1 (bls n.ln.length y.2)]⟩)
    (inv:=fun y=>y.1≤n.ln.length∧FrI (toF n p) (liN n) N (dR ms) (fun l _=>l<y.1) K y.2) (fun y=>n.ln.length-y.1) (0,fr) [0,1,2,3,4,5,6] ⟨Nat.zero_le _,FrI.zero fun l x hl=>by dsimp only at hl;omega⟩ (by dsimp only;rw [rdM_none fun l x hl=>by omega];(exact aL)) ?_
   clear hi hil hfr
   clear fr
   rintro⟨i,fr⟩ ⟨hi,hFr⟩
   dsimp only at hi hFr⊢
   by_cases hil:i<n.ln.length
   ·obtain⟨vw,vd⟩:=hvv i hil
    have hql:=qu_len n p (dR ms) i
    have hqo:=qu_ok (toF n p) (dR ms) i
    have gw:=svs_get (f:=wF) hil
    have gd:=svs_get (f:=dF) hil
    rw [vw]at gw
    rw [vd]at gd
    have hqx:∀k (hk:k<(qu (toF n p) (dR ms) i).length),_:=fun k hk=>h.qu hN (fun i k hi hk=>(hsh.b i k hi hk).2) (l:=i) (List.getElem_mem hk)
    have hpa:∀k (hk:k<(qu (toF n p) (dR ms) i).length),_:=fun k hk=>pas_at hqo (liN n) N hk
    generalize qu (toF n p) (dR ms) i=q at*
    have hix:=ints_len (ixs q)
    rw [ixs_len]at hix
    have hdl:=ivs_len q.length (run ((liN n).C i) (pkq (toF n p) q) ((liN n).c i) N).dn
    (repeat' (conv=>whnf);first|refine aC ?_ ?_<;>intro<;>try omega|refine z1_Q2 ?_|fail);all_goals try (conv=>whnf)
    refine LoopOb.mk (Y:=Nat×(Nat→Bool)) (st:=fun y=>⟨[(24,i64 y.1),(23,i64 i),(18,i64 K),(9, .ptr 3 0),(10, .vec 4),(11, .vec 5),(12, .vec 6),(3, .ptr 0 0),(6, .ptr 1 0),(1, .psl 3 (pks p)),(2,i64 N)],[nbx n, .box [.nil], .mat 1 (mtz (rdM (toF n p) (liN n) N ms K (SQ q i y.1))), .box [.vec 2], .vec 1 (svs n.ln.length dF), .vec 1 (svs n.ln.length wF), .vec 1 (bls n.ln.length y.2)]⟩)
     (inv:=fun y=>y.1≤q.length∧FrI (toF n p) (liN n) N (dR ms) (SQ q i y.1) K y.2) (fun y=>q.length-y.1) (0,fr) [0,1,2,3,4,5,6] ⟨Nat.zero_le _,hFr.weak (by omega) fun l x hs=> .inl ((SQ.zero q i l x).1 hs)⟩ (by dsimp only;rw [rdM_ext (SQ.zero q i)];(exact aL)) ?_
    clear hFr
    clear fr
    rintro⟨k,fr⟩ ⟨hk,hFr⟩
    dsimp only at hk hFr⊢
    have hb1:=bls_len n.ln.length fr
    by_cases hkl:k<q.length
    ·obtain⟨x1,_,_,_,_,_,_,kk,hkk⟩:=hqx k hkl
     obtain⟨h1,h2⟩:=hp_some hkk
     have hpk:=hpa k hkl
     have hnx:=SQ.next (i:=i) hkl
     have hfh:=SQ.fresh (i:=i) hqo hkl
     have gx:=ints_get (l:=ixs q) (j:=k) (by rw [←ixs_len q]at hkl;simpa using hkl)
     have hix2:(ixs q).getD k 0=(q[k].i :Int):=by simp [ixs,hkl]
     rw [hix2]at gx
     have gdk:=ivs_get (f:=(run ((liN n).C i) (pkq (toF n p) q) ((liN n).c i) N).dn) hkl
     rw [←hpk]at gdk
     have gp:=pks_get (l:=p) (j:=q[k].i) x1
     have hop':=hop_hp h.rt (l:=i) x1
     rw [hkk]at hop'
     dsimp only at hop'
     have hS:=rdM_sh (F:=toF n p) (Z:=liN n) (S:=SQ q i k) hsh (L:=K) ⟨by omega,by omega⟩
     have hrl:=hS.r q[k].i x1
     have hml:=hS.l
     have hMl:(rdM (toF n p) (liN n) N ms K (SQ q i k)).length =p.length:=hml
     have hgr:=mtz_get (ms:=rdM (toF n p) (liN n) N ms K (SQ q i k)) (c:=q[k].i) (by omega)
     have hgv:=ints_get (l:=(rdM (toF n p) (liN n) N ms K (SQ q i k)).getD q[k].i []) (j:=kk) (by omega)
     have hrln:=ints_len ((rdM (toF n p) (liN n) N ms K (SQ q i k)).getD q[k].i [])
     have hmtl:=mtz_len (rdM (toF n p) (liN n) N ms K (SQ q i k))
     have eD:((rdM (toF n p) (liN n) N ms K (SQ q i k)).getD q[k].i []).getD kk 0=dR (rdM (toF n p) (liN n) N ms K (SQ q i k)) q[k].i kk:=getD_dflt (by omega)
     have hdv:dR (rdM (toF n p) (liN n) N ms K (SQ q i k)) q[k].i kk=dR ms q[k].i kk:=by
      rw [rdM_at (by rw [hsh.r q[k].i x1];exact h1),if_neg (by rw [h2];exact fun c=>hfh c.1)]
     rw [eD]at hgv
     have hbd:=hS.b q[k].i kk x1 h1
     have hvb: -1≤pas (toF n p) (liN n) N (dR ms) i q[k].i ∧pas (toF n p) (liN n) N (dR ms) i q[k].i <2000:=by
      have:=pas_bd (toF n p) (liN n) N (dR ms) i q[k].i
      omega
     have hput:=rdM_put (Z:=liN n) (L:=K) hRts hsh x1 hkk hnx hfh
     have hskip:=rdM_skip (Z:=liN n) (L:=K) hRts hsh x1 hkk hnx hfh
     have hfput:=fun fr'=>hFr.put (fr':=fr') hRts x1 hkk hnx
     obtain⟨f1,f2,_,_,hRt,_⟩:=h.fl x1
     have hfg:=flg (l:=n.fl) (i:=(p.getD q[k].i pk0).f.toNat) (by omega)
     have hrtl:((toF n p).rt q[k].i).length =(pfl n (p.getD q[k].i pk0)).rt.length :=List.length_map _
     have hln2:=fun hk2:kk+1<((toF n p).rt q[k].i).length =>h.lnn x1 hk2
     have r4:=hRt.l2
     clear hpk hpa hqx hix2 h2 hnx hfh
     rw [←hdv]at hfput
     clear hdv
     generalize q[k].i =x at*
     generalize pas (toF n p) (liN n) N (dR ms) i x=v at*
     generalize dR (rdM (toF n p) (liN n) N ms K (SQ q i k)) x kk=dv at*
     generalize hMM:rdM (toF n p) (liN n) N ms K (SQ q i k)=M at*
     have hrtn:=ints_len (pfl n (p.getD x pk0)).rt
     by_cases hev:v=K∧dv<0
     ·obtain⟨e1,e2⟩:=hev
      have hp':=hput e1 e2
      have hse:(mtz M).set x ((ints (M.getD x [])).set kk [i64 K])=mtz (M.set x ((M.getD x []).set kk (K:Int))):=by rw [←mtz_set];simp [ints,List.map_set]
      by_cases hkr:kk+1<(pfl n (p.getD x pk0)).rt.length
      ·obtain⟨l1,l2⟩:=hln2 (by omega)
       have grt:=ints_get (l:=(pfl n (p.getD x pk0)).rt) (j:=kk+1) hkr
       rw [←l1]at grt
       have hgb:=bls_get (f:=fr) l2
       have hF:=hfput (upd fr (lin (toF n p) x (kk+1)) false) (fun l' hl'=>by
        by_cases e:l'=lin (toF n p) x (kk+1)
        ·subst e;rw [upd_same]at hl';cases hl'
        ·rwa [upd_ne e]at hl') (fun _ _ _=>upd_same)
       generalize lin (toF n p) x (kk+1)=nl at*
       unfold pfl at grt hkr hrtl hrtn r4 l1
       (repeat' (conv=>whnf);first|refine⟨(p.getD x pk0).f.toNat,_,by omega,hfg,?_⟩|refine⟨k,_,rfl,gdk,?_⟩|refine⟨x,_,rfl,gp,?_⟩|refine⟨k,_,rfl,gx,?_⟩|refine aC ?_ ?_<;>intro<;>try omega|refine z1_Q2 ?_|refine⟨i,rfl,by omega,?_⟩|refine⟨_,gw,?_⟩|refine⟨_,gd,?_⟩|(refine aK [] (rHop_ok n hn (p.getD x pk0).f i) ?_;rw [hop'])|refine⟨x,rfl,by omega,?_⟩|refine And.intro (show x<(mtz M).length by omega) ?_|refine⟨kk,_,rfl,hgr,by omega,?_⟩|refine⟨_,_,hgr,hgv,?_⟩|refine⟨_,hgr,?_⟩|refine⟨nl,l1.symm,by omega,?_⟩|refine⟨_,hgb,?_⟩|fail);all_goals try (conv=>whnf)
       exact⟨(k+1,upd fr nl false),[0,1,2,3,4,5,6],⟨by dsimp only;omega,hF⟩,by dsimp only;omega,by dsimp only;rw [hp',←hse,←bls_set];(exact aL)⟩
      ·have hF:=hfput fr (fun _ hl=>hl) (fun _ _ c=>by omega)
       unfold pfl at hkr hrtl hrtn r4
       (repeat' (conv=>whnf);first|refine⟨(p.getD x pk0).f.toNat,_,by omega,hfg,?_⟩|refine⟨k,_,rfl,gdk,?_⟩|refine⟨x,_,rfl,gp,?_⟩|refine⟨k,_,rfl,gx,?_⟩|refine aC ?_ ?_<;>intro<;>try omega|refine z1_Q2 ?_|refine⟨i,rfl,by omega,?_⟩|refine⟨_,gw,?_⟩|refine⟨_,gd,?_⟩|(refine aK [] (rHop_ok n hn (p.getD x pk0).f i) ?_;rw [hop'])|refine⟨x,rfl,by omega,?_⟩|refine And.intro (show x<(mtz M).length by omega) ?_|refine⟨kk,_,rfl,hgr,by omega,?_⟩|refine⟨_,_,hgr,hgv,?_⟩|refine⟨_,hgr,?_⟩|fail);all_goals try (conv=>whnf)
       exact⟨(k+1,fr),[0,1,2,3,4,5,6],⟨by dsimp only;omega,hF⟩,by dsimp only;omega,by dsimp only;rw [hp',←hse];(exact aL)⟩
     ·have hp':=hskip hev
      have hF:=hfput fr (fun _ hl=>hl) (fun a b _=>absurd ⟨a,b⟩ hev)
      unfold pfl at hrtl hrtn r4
      (repeat' (conv=>whnf);first|refine⟨(p.getD x pk0).f.toNat,_,by omega,hfg,?_⟩|refine⟨k,_,rfl,gdk,?_⟩|refine⟨x,_,rfl,gp,?_⟩|refine⟨k,_,rfl,gx,?_⟩|refine aC ?_ ?_<;>intro<;>try omega|refine z1_Q2 ?_|refine⟨i,rfl,by omega,?_⟩|refine⟨_,gw,?_⟩|refine⟨_,gd,?_⟩|(refine aK [] (rHop_ok n hn (p.getD x pk0).f i) ?_;rw [hop'])|refine⟨x,rfl,by omega,?_⟩|refine And.intro (show x<(mtz M).length by omega) ?_|refine⟨kk,_,rfl,hgr,by omega,?_⟩|refine⟨_,_,hgr,hgv,?_⟩|refine⟨_,hgr,?_⟩|fail);all_goals try (conv=>whnf)
      all_goals exact⟨(k+1,fr),[0,1,2,3,4,5,6],⟨by dsimp only;omega,hF⟩,by dsimp only;omega,by dsimp only;rw [hp'];(exact aL)⟩
    ·obtain rfl:k=q.length:=by omega
     (repeat' (conv=>whnf);first|refine aC ?_ ?_<;>intro<;>try omega|refine z1_Q2 ?_|refine⟨i,rfl,by omega,?_⟩|refine⟨_,gw,?_⟩|fail);all_goals try (conv=>whnf)
     have hdn:=fun l x (hl:l<i+1)=>SQ.done (Z:=liN n) (N:=N) hqo l x hl
     have hrq:rdM (toF n p) (liN n) N ms K (fun l _=>l<i+1)=rdM (toF n p) (liN n) N ms K (SQ q i q.length):=rdM_eqv fun l x e=>⟨fun hl=>(hdn l x hl).resolve_right (by omega),fun hs=>by
      rcases hs with c|⟨c,_⟩<;>omega⟩
     exact⟨(i+1,fr),[0,1,2,3,4,5,6],⟨by dsimp only;omega,hFr.weak (by omega) fun l x hl=>hdn l x hl⟩,by dsimp only;omega,by dsimp only;rw [hrq];(exact aL)⟩
   ·obtain rfl:i=n.ln.length:=by omega
    have hS:=rdM_sh (F:=toF n p) (Z:=liN n) (S:=fun l _=>l<n.ln.length) hsh (L:=K) ⟨by omega,by omega⟩
    have hc2:=rdM_ct hRts hLn hsh hcK
    have hqk:∀l,fr l=true→qu (toF n p) (dR (rdM (toF n p) (liN n) N ms K fun l _=>l<n.ln.length)) l=qu (toF n p) (dR ms) l:=fun l hl=>rdM_qu hRts hLn hsh hcK hFr hl
    (repeat' (conv=>whnf);first|refine aC ?_ ?_<;>intro<;>try omega|refine z1_Q2 ?_|fail);all_goals try (conv=>whnf)
    exact⟨(K+1,rdM (toF n p) (liN n) N ms K (fun l _=>l<n.ln.length),dF,wF,fr),[0,1,2,3,4,5,6],⟨hKN,hS,hc2,fun l hl hf=>⟨by dsimp only;rw [hqk l hf];exact(hvv l hl).w,by dsimp only;rw [hqk l hf];exact(hvv l hl).d⟩⟩,by dsimp only;omega,by(exact aL)⟩
end Go.Proofs.YtaomhdljcdadaaaGreat
