/- Lemmas of this seat. Conditions: as stated. -/
import Derived.Test.YtjhmjiimpmmnhaaGreatSo3
import Derived.Test.YtjhmjiimpmmnhaaGreatSxW
import Derived.Test.YtjhmjiimpmmnhaaGreatSxC
import Derived.Laws.IdiomCopy
import Derived.Tactics
set_option linter.unusedVariables false
set_option linter.unusedSimpArgs false
set_option maxHeartbeats 2000000
set_option maxRecDepth 4000
namespace Go.Proofs.YtjhmjiimpmmnhaaGreat
section
open Go.Sx Go.Pk Go.Mc Go.Np
def liN (n:Nt):Li:=⟨n.ln.length,fun l=>chL (n.ln.getD l ln0),fun l=>(n.ln.getD l ln0).c.toNat⟩
structure ShW (F:Tf) (ms:List (List Int)):Prop where
 l:ms.length=F.np
 r:∀i,i<F.np→(ms.getD i []).length =(F.rt i).length
 b:∀i h,i<F.np→h<(F.rt i).length →-2147483648≤dR ms i h∧dR ms i h≤2147483648
theorem _root_.Go.Mc.ShM.w {F:Tf} {N:Nat} (hN:N≤2000) {ms:List (List Int)} (hm:ShM F N ms):ShW F ms:=⟨hm.l,hm.r,fun i h hi hh=>by have:=hm.b i h hi hh;omega⟩
theorem MsL.ofW {n:Nt} {p:List Pk} (h:SkP n p) {ms:List (List Int)} (hm:ShW (toF n p) ms):MsL ms:=by
 have hl:ms.length=p.length:=hm.l
 have h60:=h.l
 have hr:∀i,i<p.length→(ms.getD i []).length ≤4:=fun i hi=>by
  rw [hm.r i hi]
  have:=(h.fl hi).2.2.2.2.1.l2
  show((pfl n (p.getD i pk0)).rt.map Int.toNat).length ≤4
  rw [List.length_map];exact this
 refine⟨by omega,fun i=>?_,fun i j=>?_⟩
 ·by_cases hi:i<p.length
  ·have:=hr i hi;omega
  ·rw [List.getD_eq_getElem?_getD,List.getElem?_eq_none (by omega)];simp
 ·by_cases hi:i<p.length
  ·by_cases hj:j<(ms.getD i []).length
   ·have:=hm.b i j hi (by rw [←hm.r i hi];exact hj)
    rw [getD_dflt (b:= -1) hj]
    unfold dR at this;omega
   ·rw [List.getD_eq_getElem?_getD,List.getElem?_eq_none (by omega)];simp
  ·rw [List.getD_eq_getElem?_getD (l:=ms),List.getElem?_eq_none (by omega)];simp
theorem MsL.of {n:Nt} {p:List Pk} (h:SkP n p) {N:Nat} (hN:N≤2000) {ms:List (List Int)} (hm:ShM (toF n p) N ms):MsL ms:=MsL.ofW h (hm.w hN)
theorem _root_.Go.Mc.SkP.quW {n:Nt} {p:List Pk} (h:SkP n p) {D:Tp} {l:Nat} {x:Wt} (hx:x∈qu (toF n p) D l):
  x.i<p.length∧1≤(p.getD x.i pk0).s ∧(p.getD x.i pk0).s ≤1500∧0≤x.a∧0≤(pfl n (p.getD x.i pk0)).cl ∧(pfl n (p.getD x.i pk0)).cl <(n.ln.getD l ln0).n ∧(∃k,hp (toF n p) l x.i=some k):=by
 obtain⟨h1,⟨k,h2,h3⟩,h4⟩:=((qu_ok (toF n p) D l).m x).1 hx
 have h1:x.i<p.length:=h1
 obtain⟨_,_,t1,t2,hG,s1,s2⟩:=h.fl h1
 obtain⟨k1,k2⟩:=hp_some h2
 have k3:k<(pfl n (p.getD x.i pk0)).rt.length :=by simpa [toF]using k1
 have hc:=hG.c k k3
 have hl:=(h.lnn h1 k1).1
 rw [k2]at hl
 rw [←hl,Int.toNat_natCast]at hc
 have ha:0≤x.a:=by
  unfold arr at h3
  split at h3
  ·have e:(p.getD x.i pk0).t =x.a:=Option.some.inj h3
   omega
  ·split at h3
   ·rename_i hk0 hall
    have e:D x.i (k-1)+1=x.a:=Option.some.inj h3
    have:=hall (k-1) (by omega)
    omega
   ·cases h3
 have:=hG.s1;have:=hG.s2
 exact⟨h1,by omega,by omega,ha,hc.1,hc.2,k,h2⟩
theorem PQuM_ok (n:Nt) (hn:NL n) (p:List Pk) (hp:p.length≤60) (hR:RtP n p) (ms:List (List Int)) (hm:MsL ms) (l:Int):Ctr Tryz.prog 103 [ntv n, .psl 3 (pks p), .agg [.vec 0],i64 l] [.mat 1 (ms.map ints)]
  (fun r o=>o=[.mat 1 (ms.map ints), .vec 3 (pks (pkq (toF n p) (quL n p (dR ms) l p.length))), .vec 1 (ints (ixs (quL n p (dR ms) l p.length)))]∧r= .tup [.vec 1, .vec 2]):=by
 refine Ctr.mono (Ctr.borrowM (esz:=1) (ms:=ms.map ints) (PQu_ok n hn p hp hR ms hm l) rfl ?_) ?_
 ·rintro r o ⟨rfl,rfl⟩
  refine⟨rfl,fun c hc=>?_⟩
  simp only [List.mem_cons,List.not_mem_nil,or_false]at hc
  rcases hc with rfl|rfl
  ·refine⟨_,_,rfl,fun r hr s hs=>?_⟩
   obtain⟨x,_,rfl⟩:=List.mem_map.1 hr
   simp only [List.mem_cons,List.not_mem_nil,or_false]at hs
   rcases hs with rfl|rfl|rfl<;>rfl
  ·refine⟨_,_,rfl,fun r hr s hs=>?_⟩
   obtain⟨x,_,rfl⟩:=List.mem_map.1 hr
   simp only [List.mem_cons,List.not_mem_nil,or_false]at hs
   rcases hs with rfl;rfl
 ·rintro r o ⟨r1,o1,⟨rfl,rfl⟩,rfl,rfl⟩
  exact⟨rfl,rfl⟩
theorem IndexI_ok (l:List Int) (hl:l.length≤1000000) (v:Int):Ctr Tryz.prog 128 [.psl 1 (ints l),i64 v] [] (fun r o=>∃z:Int,(0≤z↔v∈l)∧o=[]∧r=i64 z):=by
 refine fI 0 Tryz.func128 ?_
 have hn:=ints_len l
 (repeat' (conv=>whnf);first|refine aC ?_ ?_<;>intro<;>try omega|refine z1_R1 ?_|fail);all_goals try (conv=>whnf)
 refine LoopOb.mk (Y:=Nat) (st:=fun i=>⟨[(8,i64 i),(7,i64 (ints l).length),(0, .psl 1 (ints l)),(1,i64 v)],[]⟩)
  (inv:=fun i=>i≤l.length∧∀b,b<i→l.getD b 0≠v) (fun i=>l.length-i) 0 [] ⟨by omega,by omega⟩ (by(exact aL)) ?_
 rintro i ⟨hi,hv⟩
 (repeat' (conv=>whnf);first|refine z1_R1 ?_|fail);all_goals try (conv=>whnf)
 refine CondOb.mk (fun hlt=>?_) (fun hlt=>?_)
 ·have him:i<l.length:=by omega
  have hg:=ints_get (l:=l) (j:=i) him
  have hmem:l.getD i 0∈l:=getD_in him
  generalize hu:l.getD i 0=u at*
  (repeat' (conv=>whnf);first|refine aC ?_ ?_<;>intro<;>try omega|refine z1_R1 ?_|refine⟨i,_,rfl,hg,?_⟩|fail);all_goals try (conv=>whnf)
  ·have e:v=u:=by omega
   exact⟨i,⟨fun _=>by rw [e];exact hmem,fun _=>by omega⟩,rfl,rfl⟩
  ·have e:¬v=u:=by omega
   refine⟨i+1,[],⟨by omega,fun b hb=>?_⟩,by omega,by(exact aL)⟩
   by_cases e2:b=i
   ·subst e2;rw [hu];exact fun h=>e h.symm
   ·exact hv b (by omega)
 ·(repeat' (conv=>whnf);first|refine aC ?_ ?_<;>intro<;>try omega|refine z1_R1 ?_|fail);all_goals try (conv=>whnf)
  refine⟨-1,⟨fun h=>by omega,fun h=>?_⟩,rfl,rfl⟩
  obtain⟨i,hi,e⟩:=List.mem_iff_getElem.1 h
  have:=hv i (by omega)
  rw [List.getD_eq_getElem?_getD,List.getElem?_eq_getElem hi]at this
  exact absurd e this
theorem ContainsI_ok (l:List Int) (hl:l.length≤1000000) (v:Int):Ctr Tryz.prog 108 [.psl 1 (ints l),i64 v] [] (fun r o=>o=[]∧r= .bp (v∈l)):=by
 refine Ctr.imp ?_
 refine fI 0 Tryz.func108 ?_
 (repeat' (conv=>whnf);first|refine aC ?_ ?_<;>intro<;>try omega|refine z1_R1 ?_|fail);all_goals try (conv=>whnf)
 refine aM [] (IndexI_ok l hl v) rfl rfl ?_
 rintro _ _ ⟨z,hz,rfl,rfl⟩
 (repeat' (conv=>whnf);first|refine aC ?_ ?_<;>intro<;>try omega|refine z1_R1 ?_|fail);all_goals try (conv=>whnf)
 exact⟨rfl,Imp.bp hz⟩
theorem qu_PLW {n:Nt} {p:List Pk} (h:SkP n p) {ms:List (List Int)} {l:Nat} (hv:∀x∈qu (toF n p) (dR ms) l,x.a≤2000):
  PL (pkq (toF n p) (qu (toF n p) (dR ms) l))∧∀k,k<(pkq (toF n p) (qu (toF n p) (dR ms) l)).length →0≤cl (pkq (toF n p) (qu (toF n p) (dR ms) l)) k∧cl (pkq (toF n p) (qu (toF n p) (dR ms) l)) k<(n.ln.getD l ln0).n :=by
 have hq:=qu_ok (toF n p) (dR ms) l
 have key:∀k,k<(qu (toF n p) (dR ms) l).length →∃x,(pkq (toF n p) (qu (toF n p) (dR ms) l)).getD k pk0=⟨(pfl n (p.getD x.i pk0)).cl,x.a,(p.getD x.i pk0).s⟩∧x∈qu (toF n p) (dR ms) l:=fun k hk=>⟨_,pkq_at hk,List.getElem_mem hk⟩
 refine⟨⟨?_,pkq_asc hq.o,fun k hk=>?_,fun k hk=>?_⟩,fun k hk=>?_⟩
 ·rw [pkq_len];have:=qu_len n p (dR ms) l;have:=h.l;omega
 ·rw [pkq_len]at hk
  obtain⟨x,e,hx⟩:=key k hk
  have:=h.quW hx
  rw [e];exact⟨this.2.1,this.2.2.1⟩
 ·rw [pkq_len]at hk
  obtain⟨x,e,hx⟩:=key k hk
  have:=h.quW hx
  rw [e];exact⟨this.2.2.2.1,hv x hx⟩
 ·rw [pkq_len]at hk
  obtain⟨x,e,hx⟩:=key k hk
  have:=h.quW hx
  unfold cl
  rw [e];exact⟨this.2.2.2.2.1,this.2.2.2.2.2.1⟩
theorem pas_at {F:Tf} {D:Tp} {l:Nat} {q:List Wt} (hq:Qu F D l q) (Z:Li) (N:Nat) {k:Nat} (hk:k<q.length):pas F Z N D l q[k].i =(run (Z.C l) (pkq F q) (Z.c l) N).dn k:=by
 have e:=hq.uniq (qu_ok F D l)
 subst e
 unfold pas
 rw [hq.plc hk]
theorem z2_So4 {G H:Prop} (k:H) (h:H→G:=by first|exact fun r=>aS r|exact fun r=>aG r|exact fun r=>aD r|exact fun r=>aH r|exact fun r=>aP_R1 r|exact fun r=>aI r|exact fun r=>aJ r|exact fun r=>aW (.qs [0,1,2,3,4,5,6,7] (.l 8 [4,2,1] (.qs [9] (.l 10 [] (.qs [11,12,13] (.l 14 [] (.l 15 [] (.qs [16] .nil) .no) .no)) (.l 14 [4,2,1] (.l 10 [] (.qs [11,12,13] (.l 15 [] (.qs [16] .nil) .no)) .no) .no))) (.l 14 [4,2,1] (.l 8 [4,2,1] (.qs [9] (.l 10 [] (.qs [11,12,13] (.l 15 [] (.qs [16] .nil) .no)) .no)) .no) .no))) r):G:=h k
theorem passW_ok (n:Nt) (hn:NL n) (p:List Pk) (h:SkP n p) (N:Nat) (hN:N≤2000) (ms:List (List Int)) (hm:ShW (toF n p) ms) (l:Nat) (hl:l<n.ln.length) (hv:∀x∈qu (toF n p) (dR ms) l,x.a≤2000):
  Ctr Tryz.prog 76 [ntv n, .psl 3 (pks p), .agg [.vec 0],i64 l,i64 N] [.mat 1 (ms.map ints)] (fun r o=>∃c:Bool,(c=true↔ChgM (toF n p) (liN n) N l ms fun _=>true)∧r= .tup [.bl c,i64 0]∧o=[.mat 1 ((pasM (toF n p) (liN n) N l ms).map ints)]):=by
 refine fI 1 Tryz.func76 ?_
 have h60:=h.l
 have hpl:=pks_len p
 have hms:ms.length=p.length:=hm.l
 have hML:=MsL.ofW h hm
 have hln:=lnl n.ln
 have hlg:=lng (l:=n.ln) (i:=l) hl
 obtain⟨hPL,hcl⟩:=qu_PLW h hv
 have hqe:quL n p (dR ms) l p.length=qu (toF n p) (dR ms) l:=quL_nat p.length
 (repeat' (conv=>whnf);first|refine aC ?_ ?_<;>intro<;>try omega|refine z1_R1 ?_|fail);all_goals try (conv=>whnf)
 refine aK [0] (PQuM_ok n hn p h60 h.rt ms hML l) ?_
 rw [hqe]
 have hqo:=qu_ok (toF n p) (dR ms) l
 have hql:=qu_len n p (dR ms) l
 have hLL:LL (n.ln.getD l ln0):=by
  obtain⟨a,b⟩:=hn.lw _ (getD_in hl)
  exact⟨a,b⟩
 have hle:=chk_ln h.h hl
 have hpkl:=pkq_len (toF n p) (qu (toF n p) (dR ms) l)
 have heN:=enT_one (p:=pkq (toF n p) (qu (toF n p) (dR ms) l)) (m:=(pkq (toF n p) (qu (toF n p) (dR ms) l)).length)
 have heS:=enS_le (p:=pkq (toF n p) (qu (toF n p) (dR ms) l)) (m:=(pkq (toF n p) (qu (toF n p) (dR ms) l)).length) hPL.s
 have heT:=enT_le (p:=pkq (toF n p) (qu (toF n p) (dR ms) l)) (B:=2001) (m:=(pkq (toF n p) (qu (toF n p) (dR ms) l)).length) (by omega) fun i hi=>by have:=hPL.t i hi;omega
 have hen:enN (pkq (toF n p) (qu (toF n p) (dR ms) l))=enT (pkq (toF n p) (qu (toF n p) (dR ms) l)) (pkq (toF n p) (qu (toF n p) (dR ms) l)).length +enS (pkq (toF n p) (qu (toF n p) (dR ms) l)) (pkq (toF n p) (qu (toF n p) (dR ms) l)).length :=rfl
 have hdn:=fun k=>pas_at hqo (liN n) N (l:=l) (k:=k)
 generalize hqq:qu (toF n p) (dR ms) l=q at*
 generalize hpp:pkq (toF n p) q=P at*
 have hpl2:=pks_len P
 have hdl:ivs P.length (run (chL (n.ln.getD l ln0)) P (n.ln.getD l ln0).c.toNat (min (N:Int) (enN P)).toNat).dn =ivs q.length fun k=>pas (toF n p) (liN n) N (dR ms) l (q.getD k default).i :=by
  obtain⟨hf,_,_,k1,k5,hr,_,hs⟩:=lRun_fit hle hPL hcl (Nat.le_refl 2000)
  obtain⟨L,hL,hI⟩:=chL_idle (l:=n.ln.getD l ln0) hf k1 k5 hr hs
  rw [run_min hPL.a (fun i hi=>(hPL.s i hi).1) hI hL hf.c1,hpkl]
  refine List.map_congr_left fun k hk=>?_
  rw [List.mem_range]at hk
  have e:q.getD k default=q[k]:=by rw [List.getD_eq_getElem?_getD,List.getElem?_eq_getElem hk];rfl
  have e2:=hdn k hk
  rw [←e]at e2
  show [i64 _]=[i64 (pas (toF n p) (liN n) N (dR ms) l (q.getD k default).i)]
  rw [e2];rfl
 (repeat' (conv=>whnf);first|refine aC ?_ ?_<;>intro<;>try omega|refine z1_R1 ?_|fail);all_goals try (conv=>whnf)
 refine DrawOb.cut [.fz 5, .fz 6] (.qs [0,1,2,3,4,5,6,7] (.l 8 [4,2,1] (.qs [9] (.l 10 [] (.qs [11,12,13] (.l 14 [] (.l 15 [] (.qs [16] .nil) .no) .no)) (.l 14 [4,2,1] (.l 10 [] (.qs [11,12,13] (.l 15 [] (.qs [16] .nil) .no)) .no) .no))) (.l 14 [4,2,1] (.l 8 [4,2,1] (.qs [9] (.l 10 [] (.qs [11,12,13] (.l 15 [] (.qs [16] .nil) .no)) .no)) .no) .no))) (Y:=List (List Int)) (st:=fun y=>⟨[(15,i64 0),(14, .ptr 7 0),(13, .psl 1 (ints (ixs q))),(8, .ptr 4 0),(7, .ptr 3 0),(6, .ptr 2 0),(5, .ptr 1 0)],[.mat 1 (ms.map ints),nbx n, .box [.psl 3 (pks p)], .box [.vec 0], .box [i64 l], .dead, .dead, .box [.psl 1 (ivs q.length fun k=>pas (toF n p) (liN n) N (dR ms) l (q.getD k default).i), .psl 1 ((mtz y).map fun m=>[.psl 1 m])]]⟩) (inv:=fun _=>True) (by decide+kernel) ?_ ?_
 ·(repeat' (conv=>whnf);first|refine⟨l,_,rfl,hlg,?_⟩|refine aC ?_ ?_<;>intro<;>try omega|refine z2_So4 ?_|(refine aK [] (enough_ok P hPL.l hPL.s fun i hi=>by have:=hPL.t i hi;omega) ?_)|(refine CallOb.mk [] (lRun_ok _ hLL hle P (min (N:Int) (enN P)).toNat hPL hcl (by omega)) rfl ⟨Imp.refl _,Imp.refl _,Imp.num (by omega),trivial⟩ rfl rfl ?_;rintro _ _ ⟨rfl,x,⟨ys,hys,rfl⟩,rfl⟩;rw [hdl])|refine And.intro ?_ ?_|refine And.intro ?_ ?_|fail);all_goals try (conv=>whnf)
  all_goals exact⟨ys,[0,1,2,3,4,5,6,7],trivial,by(exact aL)⟩
 ·rintro y0 _
  (repeat' (conv=>whnf);first|refine aC ?_ ?_<;>intro<;>try omega|refine z1_R1 ?_|fail);all_goals try (conv=>whnf)
  refine LoopOb.mk (Y:=Nat×Bool) (st:=fun y=>⟨[(50,i64 y.1),(49,i64 (ints (ixs q)).length),(48, .psl 1 (ints (ixs q))),(17, .fn 106 [.ptr 1 0, .ptr 2 0, .ptr 4 0, .ptr 3 0, .ptr 8 0]),(16, .ptr 8 0),(14, .ptr 7 0),(13, .psl 1 (ints (ixs q))),(8, .ptr 4 0),(7, .ptr 3 0),(6, .ptr 2 0),(5, .ptr 1 0)],[.mat 1 ((nteM (toF n p) (liN n) N l ms (inQ (q.take y.1))).map ints),nbx n, .box [.psl 3 (pks p)], .box [.vec 0], .box [i64 l], .dead, .dead, .box [.psl 1 (ivs q.length fun k=>pas (toF n p) (liN n) N (dR ms) l (q.getD k default).i), .psl 1 ((mtz y0).map fun m=>[.psl 1 m])], .box [.bl y.2]]⟩)
   (inv:=fun y=>y.1≤q.length∧(y.2=true↔ChgM (toF n p) (liN n) N l ms (inQ (q.take y.1)))) (fun y=>q.length-y.1) (0,false) [0,1,2,3,4,5,6,7,8] ⟨by omega,by simp only [List.take_zero];exact⟨fun h=>(by cases h),fun h=>absurd h (chg_none fun _=>rfl)⟩⟩ (by rw [show nteM (toF n p) (liN n) N l ms (inQ (q.take 0))=ms from nte_none fun i _ k h=>by simp [inQ]at h];(exact aL)) ?_
  rintro⟨k,c⟩ ⟨hk,hc⟩
  dsimp only at hk hc⊢
  have hixl:=ixs_len q
  have hil0:=ints_len (ixs q)
  have hvl:=ivs_len q.length fun k=>pas (toF n p) (liN n) N (dR ms) l (q.getD k default).i
  by_cases hkq:k<q.length
  ·have hS:=fun i=>inQ_take hkq i
   have hfr:=hqo.fresh hkq
   obtain⟨hip,h0,hh⟩:=hqo.hp (List.getElem_mem hkq)
   have hip:q[k].i <p.length:=hip
   have hge:q.getD k default=q[k]:=by rw [List.getD_eq_getElem?_getD,List.getElem?_eq_getElem hkq];rfl
   have gx:(ints (ixs q))[k]? =some [i64 (q[k].i :Int)]:=by simp [ints,ixs,hkq]
   have gv:=ivs_get (f:=fun k=>pas (toF n p) (liN n) N (dR ms) l (q.getD k default).i) hkq
   simp only [hge]at gv
   have hhop:hop n (p.getD q[k].i pk0).f l=(h0:Nat):=by rw [hop_hp h.rt hip,hh]
   have hr:=(hp_some hh).1
   have hrl:=hm.r q[k].i hip
   have hr4:(ms.getD q[k].i []).length ≤4:=by
    have h2:=(h.fl hip).2.2.2.2.1.l2
    rw [hrl]
    show((pfl n (p.getD q[k].i pk0)).rt.map Int.toNat).length ≤4
    rw [List.length_map];exact h2
   have hst:=nte_step (F:=toF n p) (Z:=liN n) (N:=N) (l:=l) (ms:=ms) (S:=inQ (q.take k)) (S':=inQ (q.take (k+1))) (i:=q[k].i) (h:=h0) (by omega) hh (by rw [hS];simp) (fun j hj=>by rw [hS];simp [Ne.symm hj])
   have hcs:=chg_step (F:=toF n p) (Z:=liN n) (N:=N) (l:=l) (ms:=ms) (S:=inQ (q.take k)) (S':=inQ (q.take (k+1))) (i:=q[k].i) (h:=h0) hip hh (by rw [hS];simp) (fun j hj=>by rw [hS];simp [Ne.symm hj])
   have hol:=nte_old (F:=toF n p) (Z:=liN n) (N:=N) (l:=l) (ms:=ms) (S:=inQ (q.take k)) (i:=q[k].i) (h:=h0) (by rw [hrl];exact hr) hfr
   have hnl:=nte_len (F:=toF n p) (Z:=liN n) (N:=N) (l:=l) (ms:=ms) (S:=inQ (q.take k))
   have hnr:=nte_rlen (F:=toF n p) (Z:=liN n) (N:=N) (l:=l) (ms:=ms) (S:=inQ (q.take k)) (i:=q[k].i)
   clear hS hfr hge
   generalize q[k].i =i at*
   generalize pas (toF n p) (liN n) N (dR ms) l i=v at*
   generalize nteM (toF n p) (liN n) N l ms (inQ (q.take k))=cur at*
   (repeat' (conv=>whnf);first|refine⟨k,_,rfl,gv,?_⟩|refine⟨k,_,rfl,gx,?_⟩|refine aC ?_ ?_<;>intro<;>try omega|refine z1_R1 ?_|fail);all_goals try (conv=>whnf)
   refine aK [1,2,4,3,0,8] (note_ok n hn p h60 l cur c i h0 v hip (by omega) hhop (by omega) (by omega) (by omega)) ?_
   rw [hst,hol]
   (repeat' (conv=>whnf);first|refine aC ?_ ?_<;>intro<;>try omega|refine z1_R1 ?_|fail);all_goals try (conv=>whnf)
   exact⟨(k+1,c||decide (dR ms i h0≠v)),[0,1,2,3,4,5,6,7,8],⟨by dsimp only;omega,by
    dsimp only
    rw [hcs,Bool.or_eq_true,decide_eq_true_eq,hc]
    exact or_congr Iff.rfl ne_comm⟩,by dsimp only;omega,by(exact aL)⟩
  ·obtain rfl:k=q.length:=by omega
   rw [List.take_length]at hc⊢
   (repeat' (conv=>whnf);first|refine aC ?_ ?_<;>intro<;>try omega|refine z1_R1 ?_|fail);all_goals try (conv=>whnf)
   refine LoopOb.mk (Y:=Nat×Bool) (st:=fun y=>⟨[(66,i64 y.1),(65,i64 (pks p).length),(64, .psl 3 (pks p)),(17, .fn 106 [.ptr 1 0, .ptr 2 0, .ptr 4 0, .ptr 3 0, .ptr 8 0]),(16, .ptr 8 0),(13, .psl 1 (ints (ixs q))),(8, .ptr 4 0),(7, .ptr 3 0),(6, .ptr 2 0),(5, .ptr 1 0)],[.mat 1 ((nteM (toF n p) (liN n) N l ms fun j=>inQ q j||decide (j<y.1)).map ints),nbx n, .box [.psl 3 (pks p)], .box [.vec 0], .box [i64 l], .dead, .dead, .dead, .box [.bl y.2]]⟩)
    (inv:=fun y=>y.1≤p.length∧(y.2=true↔ChgM (toF n p) (liN n) N l ms fun j=>inQ q j||decide (j<y.1))) (fun y=>p.length-y.1) (0,c) [0,1,2,3,4,5,6,7,8] ⟨by omega,by dsimp only;simp only [Nat.not_lt_zero,decide_false,Bool.or_false];exact hc⟩ (by simp only [Nat.not_lt_zero,decide_false,Bool.or_false];(exact aL)) ?_
   clear hc hk hkq
   rintro⟨i,c⟩ ⟨hi,hc⟩
   dsimp only at hi hc⊢
   have hsu:∀j,j≠i→(inQ q j||decide (j<i+1))=(inQ q j||decide (j<i)):=fun j hj=>by
    congr 1
    rw [decide_eq_decide];omega
   by_cases hip:i<p.length
   ·have hg:=pks_get hip
    have hhop:=hop_hp (l:=l) h.rt hip
    have hrl:=hm.r i hip
    have hct:=ContainsI_ok (ixs q) (by omega) (i:Int)
    have hin:((i:Int)∈ixs q)↔inQ q i=true:=by
     rw [inQ_iff]
     simp only [ixs,List.mem_map]
     constructor
     ·rintro⟨x,hx,e⟩;exact⟨x,hx,by omega⟩
     ·rintro⟨x,hx,e⟩;exact⟨x,hx,by omega⟩
    rcases hh:hp (toF n p) l i with _|h0
    ·rw [hh]at hhop
     dsimp only at hhop
     have hst:=nte_skip (F:=toF n p) (Z:=liN n) (N:=N) (l:=l) (ms:=ms) (S:=fun j=>inQ q j||decide (j<i)) (S':=fun j=>inQ q j||decide (j<i+1)) (i:=i) (.inl hh) (by simp) hsu
     have hcs:=chg_skip (F:=toF n p) (Z:=liN n) (N:=N) (l:=l) (ms:=ms) (S:=fun j=>inQ q j||decide (j<i)) (S':=fun j=>inQ q j||decide (j<i+1)) (i:=i) (.inl hh) (by simp) hsu
     generalize p.getD i pk0=x at*
     (repeat' (conv=>whnf);first|refine⟨i,_,rfl,hg,?_⟩|refine aC ?_ ?_<;>intro<;>try omega|refine z1_R1 ?_|(refine aK [] (Hop_ok n hn x.f l) ?_)|fail);all_goals try (conv=>whnf)
     rw [hhop]
     (repeat' (conv=>whnf);first|refine aC ?_ ?_<;>intro<;>try omega|refine z1_R1 ?_|fail);all_goals try (conv=>whnf)
     exact⟨(i+1,c),[0,1,2,3,4,5,6,7,8],⟨by dsimp only;omega,by dsimp only;rw [hcs];exact hc⟩,by dsimp only;omega,by rw [←hst];(exact aL)⟩
    ·rw [hh]at hhop
     dsimp only at hhop
     have hr:=(hp_some hh).1
     cases hb:inQ q i with
     |true=>
      have hst:=nte_skip (F:=toF n p) (Z:=liN n) (N:=N) (l:=l) (ms:=ms) (S:=fun j=>inQ q j||decide (j<i)) (S':=fun j=>inQ q j||decide (j<i+1)) (i:=i) (.inr (by simp [hb])) (by simp) hsu
      have hcs:=chg_skip (F:=toF n p) (Z:=liN n) (N:=N) (l:=l) (ms:=ms) (S:=fun j=>inQ q j||decide (j<i)) (S':=fun j=>inQ q j||decide (j<i+1)) (i:=i) (.inr (by simp [hb])) (by simp) hsu
      have hmem:(i:Int)∈ixs q:=hin.2 hb
      generalize p.getD i pk0=x at*
      (repeat' (conv=>whnf);first|refine⟨i,_,rfl,hg,?_⟩|refine aC ?_ ?_<;>intro<;>try omega|refine z1_R1 ?_|(refine aK [] (Hop_ok n hn x.f l) ?_)|fail);all_goals try (conv=>whnf)
      rw [hhop]
      (repeat' (conv=>whnf);first|refine aC ?_ ?_<;>intro<;>try omega|refine z1_R1 ?_|(refine aK [] (hct) ?_)|fail);all_goals try (conv=>whnf)
      all_goals first
       |exact absurd hmem (by assumption)
       |exact⟨(i+1,c),[0,1,2,3,4,5,6,7,8],⟨by dsimp only;omega,by dsimp only;rw [hcs];exact hc⟩,by dsimp only;omega,by rw [←hst];(exact aL)⟩
     |false=>
      have hst:=nte_step (F:=toF n p) (Z:=liN n) (N:=N) (l:=l) (ms:=ms) (S:=fun j=>inQ q j||decide (j<i)) (S':=fun j=>inQ q j||decide (j<i+1)) (i:=i) (h:=h0) (by omega) hh (by simp) hsu
      have hcs:=chg_step (F:=toF n p) (Z:=liN n) (N:=N) (l:=l) (ms:=ms) (S:=fun j=>inQ q j||decide (j<i)) (S':=fun j=>inQ q j||decide (j<i+1)) (i:=i) (h:=h0) hip hh (by simp) hsu
      have hol:=nte_old (F:=toF n p) (Z:=liN n) (N:=N) (l:=l) (ms:=ms) (S:=fun j=>inQ q j||decide (j<i)) (i:=i) (h:=h0) (by rw [hrl];exact hr) (by simp [hb])
      have hnl:=nte_len (F:=toF n p) (Z:=liN n) (N:=N) (l:=l) (ms:=ms) (S:=fun j=>inQ q j||decide (j<i))
      have hnr:=nte_rlen (F:=toF n p) (Z:=liN n) (N:=N) (l:=l) (ms:=ms) (S:=fun j=>inQ q j||decide (j<i)) (i:=i)
      have hr4:(ms.getD i []).length ≤4:=by
       have h2:=(h.fl hip).2.2.2.2.1.l2
       rw [hrl]
       show((pfl n (p.getD i pk0)).rt.map Int.toNat).length ≤4
       rw [List.length_map];exact h2
      rw [pas_out hqo hb]at hst hcs
      have hmem:¬(i:Int)∈ixs q:=fun k=>by rw [hin.1 k]at hb;cases hb
      generalize hcu:nteM (toF n p) (liN n) N l ms (fun j=>inQ q j||decide (j<i))=cur at*
      have hnt:=note_ok n hn p h60 l cur c i h0 (-1) hip (by omega) hhop (by omega) (by omega) (by omega)
      generalize p.getD i pk0=x at*
      (repeat' (conv=>whnf);first|refine⟨i,_,rfl,hg,?_⟩|refine aC ?_ ?_<;>intro<;>try omega|refine z1_R1 ?_|(refine aK [] (Hop_ok n hn x.f l) ?_)|fail);all_goals try (conv=>whnf)
      rw [hhop]
      (repeat' (conv=>whnf);first|(refine aK [1,2,4,3,0,8] hnt ?_;rw [hst,hol])|refine aC ?_ ?_<;>intro<;>try omega|refine z1_R1 ?_|(refine aK [] (hct) ?_)|fail);all_goals try (conv=>whnf)
      all_goals first
       |exact absurd (by assumption) hmem
       |exact absurd hmem (by assumption)
       |exact⟨(i+1,c||decide (dR ms i h0≠-1)),[0,1,2,3,4,5,6,7,8],⟨by dsimp only;omega,by
         dsimp only
         rw [hcs,Bool.or_eq_true,decide_eq_true_eq,hc]
         exact or_congr Iff.rfl ne_comm⟩,by dsimp only;omega,by(exact aL)⟩
   ·obtain rfl:i=p.length:=by omega
    have hst:=nte_ext (F:=toF n p) (Z:=liN n) (N:=N) (l:=l) (ms:=ms) (S:=fun j=>inQ q j||decide (j<p.length)) (S':=fun _=>true) fun j hj=>by simp only [Bool.or_eq_true,decide_eq_true_eq];right;omega
    have hcs:=chg_ext (F:=toF n p) (Z:=liN n) (N:=N) (l:=l) (ms:=ms) (S:=fun j=>inQ q j||decide (j<p.length)) (S':=fun _=>true) fun j hj=>by simp only [Bool.or_eq_true,decide_eq_true_eq];right;exact hj
    rw [hst]
    rw [hcs]at hc
    (repeat' (conv=>whnf);first|refine aC ?_ ?_<;>intro<;>try omega|refine z1_R1 ?_|fail);all_goals try (conv=>whnf)
    exact⟨c,hc,rfl,rfl⟩
theorem pass_ok (n:Nt) (hn:NL n) (p:List Pk) (h:SkP n p) (N:Nat) (hN:N≤2000) (ms:List (List Int)) (hm:ShM (toF n p) N ms) (l:Nat) (hl:l<n.ln.length):
  Ctr Tryz.prog 76 [ntv n, .psl 3 (pks p), .agg [.vec 0],i64 l,i64 N] [.mat 1 (ms.map ints)] (fun r o=>∃c:Bool,(c=true↔ChgM (toF n p) (liN n) N l ms fun _=>true)∧r= .tup [.bl c,i64 0]∧o=[.mat 1 ((pasM (toF n p) (liN n) N l ms).map ints)]):=
 passW_ok n hn p h N hN ms (hm.w hN) l hl fun x hx=>by have:=h.qu hN (fun i k hi hk=>(hm.b i k hi hk).2) hx;omega
end
end Go.Proofs.YtjhmjiimpmmnhaaGreat
section
namespace Go.Sx
theorem cell_at {w:World} {b:Nat} {T:TypeId} {cs:List Value} (h:w.heap[b]? =some (.cells cs.toArray T (0,0))) (o:Nat):w.cell? ⟨b,o,none⟩=cs[o]? ∧w.frozen? ⟨b,o,none⟩=false:=by
 constructor
 ·simp [World.cell?,h]
 ·simp [World.frozen?,h]
end Go.Sx
end
