/- Lemmas of this seat. Conditions: as stated. -/
import Derived.Test.YtaomhdljcdadaaaGreatC2
import Derived.Test.YtaomhdljcdadaaaGreatS8
import Derived.Test.YtaomhdljcdadaaaGreatMtt
set_option linter.unusedVariables false
set_option linter.unusedSimpArgs false
set_option maxHeartbeats 2000000
set_option maxRecDepth 4000
namespace Go.Proofs.YtaomhdljcdadaaaGreat
section
open Go.Sx Go.Pk Go.Mc
structure Sn (N:Nat) (len:Nat→Nat) (B:Int) (ms:List (List Int)):Prop where
 l:ms.length=N
 r:∀c,c<N→(ms.getD c []).length =len c
 v:∀c,c<N→∀k,0≤(ms.getD c []).getD k 0∧(ms.getD c []).getD k 0≤B
abbrev mtz (ms:List (List Int)):List (List (List SV)):=ms.map ints
theorem mtz_len (ms:List (List Int)):(mtz ms).length =ms.length:=by simp [mtz]
theorem mtz_get {ms:List (List Int)} {c:Nat} (h:c<ms.length):(mtz ms)[c]? =some (ints (ms.getD c [])):=by simp [mtz,h]
theorem mtz_set {ms:List (List Int)} {c:Nat} {r:List Int}:(mtz ms).set c (ints r)=mtz (ms.set c r):=by simp [mtz,List.map_set]
theorem Sn.set {N:Nat} {len len':Nat→Nat} {B B':Int} {ms:List (List Int)} (h:Sn N len B ms) (hB:B≤B') {c:Nat} (hc:c<N) {r:List Int} (h1:r.length=len' c) (h2:∀k,k≠c→len' k=len k) (h3:∀k,0≤r.getD k 0∧r.getD k 0≤B'):Sn N len' B' (ms.set c r):=by
 have hl:=h.l
 have key:∀k,k<N→(ms.set c r).getD k []=if k=c then r else ms.getD k []:=fun k hk=>by
  rw [List.getD_eq_getElem?_getD,List.getElem?_set]
  by_cases e:c=k
  ·subst e;rw [if_pos rfl,if_pos (by omega),if_pos rfl];rfl
  ·rw [if_neg e,if_neg (fun e'=>e e'.symm),List.getD_eq_getElem?_getD]
 refine⟨by rw [List.length_set];exact hl,fun k hk=>?_,fun k hk j=>?_⟩
 ·rw [key k hk];split
  ·rename_i e;subst e;exact h1
  ·rename_i e;rw [h2 k e];exact h.r k hk
 ·rw [key k hk];split
  ·exact h3 j
  ·have:=h.v k hk j;omega
theorem Sn.up {N:Nat} {len:Nat→Nat} {B B':Int} {ms:List (List Int)} (h:Sn N len B ms) (hB:B≤B'):Sn N len B' ms:=⟨h.l,h.r,fun c hc k=>by have:=h.v c hc k;omega⟩
theorem getD_app {l:List Int} {x:Int} {k:Nat}:(l++[x]).getD k 0=if k<l.length then l.getD k 0 else if k=l.length then x else 0:=by
 rw [List.getD_eq_getElem?_getD,List.getElem?_append]
 split
 ·rw [List.getD_eq_getElem?_getD]
 ·rename_i h
  split
  ·rename_i e;subst e;simp
  ·rw [List.getElem?_eq_none (by simp;omega)];rfl
theorem getD_setI {l:List Int} {x:Int} {j k:Nat} (hj:j<l.length):(l.set j x).getD k 0=if k=j then x else l.getD k 0:=by
 rw [List.getD_eq_getElem?_getD,List.getElem?_set]
 by_cases e:j=k
 ·subst e;rw [if_pos rfl,if_pos hj,if_pos rfl];rfl
 ·rw [if_neg e,if_neg (fun e'=>e e'.symm),List.getD_eq_getElem?_getD]
theorem ivs_congr {m:Nat} {f g:Nat→Int} (h:∀b,b<m→f b=g b):ivs m f=ivs m g:=List.map_congr_left fun b hb=>by rw [h b (List.mem_range.1 hb)]
def neg (i:Nat):Nat→Int:=fun j=>if j<i then-1 else 0
theorem neg_zero:neg 0=fun _=>0:=funext fun j=>if_neg (by omega)
theorem neg_set {n i:Nat}:(ivs n (neg i)).set i [i64 (-1)]=ivs n (neg (i+1)):=by
 rw [ivs_set]
 refine ivs_congr fun j _=>?_
 unfold neg
 by_cases e:j=i
 ·subst e;rw [upd_same,if_pos (by omega)]
 ·rw [upd_ne e]
  by_cases h:j<i
  ·rw [if_pos h,if_pos (by omega)]
  ·rw [if_neg h,if_neg (by omega)]
theorem neg_all (n:Nat):ivs n (neg n)=ivs n fun _=> -1:=ivs_congr fun j hj=>if_pos hj
def rw0 (N k:Nat):List (List Int):=(List.range N).map fun c=>if c<k then [0]else []
theorem rw0_len (N k:Nat):(rw0 N k).length =N:=by simp [rw0]
theorem rw0_sn (N:Nat):Sn N (fun _=>1) 0 (rw0 N N):=by
 have key:∀c,c<N→(rw0 N N).getD c []=[0]:=fun c hc=>by simp [rw0,hc]
 refine⟨rw0_len N N,fun c hc=>by rw [key c hc];rfl,fun c hc k=>?_⟩
 rw [key c hc]
 cases k<;>simp
def cI:Option (Nat×Nat)→Int
 |none=> -1
 |some c=>c.1
def cR:Option (Nat×Nat)→Int
 |none=>0
 |some c=>c.2
inductive Rch (C:Ch) (p:List Pk):C.σ→Prop
 |z:Rch C p C.s0
 |s {t l:Nat} {w:Nat→Bool} {s:C.σ} (h:Rch C p s):Rch C p (C.ch p t l w s).1
theorem sel_rch {C:Ch} {p:List Pk} {t l:Nat} {S:St C.σ} (h:Rch C p S.s):Rch C p (Mc.sel C p t l S).1.s :=by
 unfold Mc.sel
 cases S.cur with
 |some c=>exact h
 |none=>
  simp only
  cases(C.ch p t l (wt p t S.bg) S.s).2 with
  |none=>exact h.s
  |some i=>exact h.s
theorem tk_rch {C:Ch} {p:List Pk} {t:Nat}:∀(l:Nat) {S:St C.σ},Rch C p S.s→Rch C p (tk C p t l S).s :=by
 intro l
 induction l using Nat.strongRecOn with
 |ind l ih=>
  intro S h
  cases l with
  |zero=>rw [tk];exact h
  |succ l=>
   rw [tk]
   have h1:=sel_rch (p:=p) (t:=t) (l:=l+1) h
   split
   ·exact h1
   ·split
    ·exact ih _ (by omega) h1
    ·exact h1
theorem run_rch {C:Ch} {p:List Pk} {c:Nat}:∀t,Rch C p (run C p c t).s
 |0=> .z
 |t+1=>tk_rch c (run_rch t)
def RunV (n:Nat) (dn:Nat→Int) (r:SV):Prop:=∃ms:List (List Int),ms.length≤6∧r= .agg [.psl 1 (ivs n dn), .psl 1 ((mtz ms).map fun m=>[.psl 1 m])]
end
section
open Go.Sx Go.Pk Go.Mc Go.Np
abbrev wtO (p:List Pk) (A:Nat→Int) (i:Nat):Wt:=⟨A i,(p.getD i pk0).f,i⟩
theorem z1_S9 {G H:Prop} (k:H) (h:H→G:=by first|exact fun r=>aS r|exact fun r=>aG r|exact fun r=>aD r|exact fun r=>aH r|exact fun r=>aP_T1 r|exact fun r=>aI r|exact fun r=>aJ r|exact fun r=>aW (.qs [0,1,2,3,4,5,6,7,8] .nil) r|exact fun r=>aW (.qs [0,1,2,3,4,5,6,7,8,9] .nil) r|exact fun r=>aW (.qs [0,1,2,3,4,5,6,7,8,9,10] .nil) r|exact fun r=>aW (.qs [0,1,2,3,4,5,6,7,8,9,10,11] .nil) r):G:=h k
theorem ahead_ok (p:List Pk) (A:Nat→Int) (a b:Nat) (ha:a<p.length) (hb:b<p.length):
  Ctr Tryz.prog 64 [.psl 3 (pks p), .vec 0,i64 a,i64 b] [.vec 1 (ivs p.length A)] (fun r o=>o=[.vec 1 (ivs p.length A)]∧∃P:Prop,(P↔(wtO p A a).lt (wtO p A b))∧r= .bp P):=by
 refine fI 1 Tryz.func64 ?_
 have hpl:=pks_len p
 have hil:=ivs_len p.length A
 have ga:=ivs_get (f:=A) ha
 have gb:=ivs_get (f:=A) hb
 have pa:=pks_get ha
 have pb:=pks_get hb
 have hlt:(wtO p A a).lt (wtO p A b)↔(A a<A b∨(A a=A b∧((p.getD a pk0).f <(p.getD b pk0).f ∨((p.getD a pk0).f =(p.getD b pk0).f ∧a<b)))):=Iff.rfl
 generalize p.getD a pk0=x at*
 generalize p.getD b pk0=y at*
 generalize A a=u at*
 generalize A b=v at*
 (repeat' (conv=>whnf);first|refine⟨b,_,rfl,pb,?_⟩|refine⟨a,_,rfl,pa,?_⟩|refine aC ?_ ?_<;>intro<;>try omega|refine z1_S9 ?_|refine⟨a,rfl,by omega,?_⟩|refine⟨b,rfl,by omega,?_⟩|refine⟨_,ga,?_⟩|refine⟨_,gb,?_⟩|fail);all_goals try (conv=>whnf)
 all_goals first
  |exact⟨rfl,u<v,by rw [hlt];omega,rfl⟩
  |exact⟨rfl,x.f<y.f,by rw [hlt];omega,rfl⟩
  |exact⟨rfl,(a:Int)<b,by rw [hlt];omega,rfl⟩
abbrev ixs (q:List Wt):List Int:=q.map fun x=>(x.i:Int)
theorem ixs_len (q:List Wt):(ixs q).length =q.length:=by simp [ixs]
def QuR (F:Tf) (q:List Wt) (r:SV) (o:List Chunk):Prop:=r= .tup [.vec 0, .vec 1]∧o=[.vec 3 (pks (pkq F q)), .vec 1 (ints (ixs q))]
theorem z3_S9 {G H:Prop} (k:H) (h:H→G:=by first|exact fun r=>aS r|exact fun r=>aG r|exact fun r=>aD r|exact fun r=>aP_T1 r|exact fun r=>aI r|exact fun r=>aJ r|exact fun r=>aW (.qs [0,1,2,3,4,5,6,7,8,9,10] (.l 11 [2,0] (.l 12 [] (.qs [13,14,15,16,17] .nil) .no) .no)) r|exact fun r=>aW (.qs [0,1,2,3,4,5,6,7,8,9,10,11,12,13] (.l 14 [] (.qs [15] .nil) .no)) r|exact fun r=>aW (.qs [0,1,2,3,4,5,6,7,8,9,10,11,12,13,14] (.l 15 [] (.qs [16] (.l 17 [] .nil .no)) .no)) r|exact fun r=>aW (.qs [0,1,2,3,4,5,6,7,8,9,10,11,12,13,14,15,16,17] (.l 18 [] (.l 19 [] (.qs [20] .nil) .no) .no)) r):G:=h k
theorem z2_S9 {G H:Prop} (k:H) (h:H→G:=by first|exact fun r=>aS r|exact fun r=>aG r|exact fun r=>aD r|exact fun r=>aH r|exact fun r=>aP_T1 r|exact fun r=>aI r|exact fun r=>aJ r|exact fun r=>aW (.qs [0,1,2,3,4,5,6,7,8,9,10] (.l 11 [2,0] (.l 12 [] (.qs [13,14,15,16,17] .nil) .no) .no)) r|exact fun r=>aW (.qs [0,1,2,3,4,5,6,7,8,9,10,11,12,13] (.l 14 [] (.qs [15] .nil) .no)) r|exact fun r=>aW (.qs [0,1,2,3,4,5,6,7,8,9,10,11,12,13,14] (.l 15 [] (.qs [16] (.l 17 [] .nil .no)) .no)) r|exact fun r=>aW (.qs [0,1,2,3,4,5,6,7,8,9,10,11,12,13,14,15,16,17] (.l 18 [] (.l 19 [] (.qs [20] .nil) .no) .no)) r):G:=h k
theorem RQu_ok (n:Nt) (hn:NL n) (p:List Pk) (hp:p.length≤60) (hR:RtP n p) (ms:List (List Int)) (hm:MsL ms) (l:Int):Ctr Tryz.prog 20 [ntv n, .psl 3 (pks p), .agg [.psl 1 (trs ms)],i64 l] [] (QuR (toF n p) (quL n p (dR ms) l p.length)):=by
 refine fI 0 Tryz.func20 ?_
 have hpl:=pks_len p
 have htl:=trs_len ms
 have hml:=hm.l
 (repeat' (conv=>whnf);first|refine aC ?_ ?_<;>intro<;>try omega|refine aS ?_|refine aG ?_|refine aD ?_|refine aH ?_|refine aP_T1 ?_|refine aI ?_|refine aJ ?_|refine⟨_,_,rfl,rfl,Nat.le_refl _,⟨by(simp only;omega),by omega⟩,?_⟩|refine aW (.qs [0,1,2,3,4,5,6,7,8,9,10] (.l 11 [2,0] (.l 12 [] (.qs [13,14,15,16,17] .nil) .no) .no)) ?_|refine aW (.qs [0,1,2,3,4,5,6,7,8,9,10,11,12,13] (.l 14 [] (.qs [15] .nil) .no)) ?_|refine aW (.qs [0,1,2,3,4,5,6,7,8,9,10,11,12,13,14] (.l 15 [] (.qs [16] (.l 17 [] .nil .no)) .no)) ?_|refine aW (.qs [0,1,2,3,4,5,6,7,8,9,10,11,12,13,14,15,16,17] (.l 18 [] (.l 19 [] (.qs [20] .nil) .no) .no)) ?_|refine⟨p.length,p.length,by omega,by omega,Nat.le_refl _,⟨by simp only;omega,by omega⟩,?_⟩|fail);all_goals try (conv=>whnf)
 dsimp only [ofV]
 rw [show ofV1 (Value.int IntKind.i64 0)=i64 0 from rfl,ivs_rep]
 refine LoopOb.mk (Y:=Nat×(Nat→Int)) (st:=fun y=>⟨[(12,i64 y.1),(11, .vec 3),(10, .vec 2),(6, .ptr 1 0),(4, .ptr 0 0),(1, .psl 3 (pks p)),(3,i64 l)],[nbx n, .box [.psl 1 (trs ms)], .vec 1 (ivs p.length y.2), .vec 1 (ints (ixs (quL n p (dR ms) l y.1)))]⟩)
  (inv:=fun y=>y.1≤p.length∧∀x∈quL n p (dR ms) l y.1,y.2 x.i=x.a) (fun y=>p.length-y.1) (0,fun _=>0) [0,1,4,5] ⟨by omega,fun x hx=>by simp [quL]at hx⟩ (by rw [hpl];(exact aL)) ?_
 rintro⟨i,A⟩ ⟨hi,hA⟩
 dsimp only at hi hA⊢
 have hq1:=quL_at (n:=n) (p:=p) (D:=dR ms) (l:=l) i
 have hq2:=quL_len (n:=n) (p:=p) (D:=dR ms) (l:=l) i
 have hq3:=(quL_ok (n:=n) (p:=p) (D:=dR ms) (l:=l) i).1
 by_cases hil:i<p.length
 ·have hnx:quL n p (dR ms) l (i+1)=match arL n p (dR ms) l i with
   |none=>quL n p (dR ms) l i
   |some a=>insW ⟨a,(p.getD i pk0).f,i⟩ (quL n p (dR ms) l i):=rfl
  generalize quL n p (dR ms) l i=q at*
  have hg:=pks_get hil
  have haO:=arO_arL (D:=dR ms) (l:=l) hR hil
  have hix:=ixs_len q
  have hiv:=ints_len (ixs q)
  have hvl:=ivs_len p.length A
  obtain⟨x,hx⟩:∃x,p.getD i pk0=x:=⟨_,rfl⟩
  rw [hx]at hg haO hnx
  (repeat' (conv=>whnf);first|refine⟨i,_,rfl,hg,?_⟩|refine aC ?_ ?_<;>intro<;>try omega|refine z2_S9 ?_|fail);all_goals try (conv=>whnf)
  refine aK [] (rHop_ok n hn x.f l) ?_
  (repeat' (conv=>whnf);first|refine aC ?_ ?_<;>intro<;>try omega|refine z2_S9 ?_|fail);all_goals try (conv=>whnf)
  refine aK [] (RArr_ok n hn p (by omega) ms hm i (hop n x.f l)) ?_
  rw [haO]
  clear haO
  cases ha:arL n p (dR ms) l i with
  |none=>
   rw [ha]at hnx
   dsimp only at hnx
   simp only [arrT]
   (repeat' (conv=>whnf);first|refine aC ?_ ?_<;>intro<;>try omega|refine z2_S9 ?_|fail);all_goals try (conv=>whnf)
   exact⟨(i+1,A),[0,1,2,3],⟨by dsimp only;omega,by dsimp only;rw [hnx];exact hA⟩,by dsimp only;omega,by dsimp only;rw [hnx];(exact aL)⟩
  |some a=>
   rw [ha]at hnx
   dsimp only at hnx
   simp only [arrT]
   (repeat' (conv=>whnf);first|refine aC ?_ ?_<;>intro<;>try omega|refine z2_S9 ?_|refine⟨i,rfl,by omega,?_⟩|refine⟨_,ivs_get hil,?_⟩|fail);all_goals try (conv=>whnf)
   obtain⟨x0,hx0⟩:∃x0:Wt,x0=⟨a,x.f,i⟩:=⟨_,rfl⟩
   have hx0i:x0.i=i:=by rw [hx0]
   have hcon:ints (ixs q)++[[i64 i]]=ints (ixs (q++[x0])):=by rw [←hx0i];simp [ints,ixs]
   have hl1:=ints_len (ixs (q++[x0]))
   have hl2:=ixs_len (q++[x0])
   have hl3:(q++[x0]).length =q.length+1:=by simp
   rw [←hx0]at hnx
   have hA2:∀y∈q,wtO p (upd A i a) y.i=y:=fun y hy=>by
    obtain⟨y1,y2,_⟩:=hq1 y hy
    refine Wt.ext' ?_ y2.symm rfl
    show upd A i a y.i=y.a
    rw [upd_ne (by omega)];exact hA y hy
   have hA3:wtO p (upd A i a) i=x0:=by rw [hx0];exact Wt.ext' upd_same (by show(p.getD i pk0).f =x.f;rw [hx]) rfl
   rw [show(SV.num IntKind.i64 (i:Int))=i64 i from rfl,hcon,show(SV.num IntKind.i64 a)=i64 a from rfl,ivs_set]
   (repeat' (conv=>whnf);first|refine aC ?_ ?_<;>intro<;>try omega|refine z2_S9 ?_|fail);all_goals try (conv=>whnf)
   rw [show((ints (ixs (q++[x0]))).length :Int)-1=q.length by omega]
   refine LoopOb.mk (Y:=List Wt×List Wt) (st:=fun y=>⟨[(15,i64 y.1.length),(12,i64 i),(11, .vec 3),(10, .vec 2),(6, .ptr 1 0),(4, .ptr 0 0),(1, .psl 3 (pks p)),(3,i64 l)],[nbx n, .box [.psl 1 (trs ms)], .vec 1 (ivs p.length (upd A i a)), .vec 1 (ints (ixs (y.1++x0::y.2)))]⟩)
    (inv:=fun y=>y.1++y.2=q∧∀z∈y.2,x0.lt z) (fun y=>y.1.length) (q,[]) [0,1,2,5] ⟨by simp,fun z hz=>by simp at hz⟩ (by(exact aL)) ?_
   rintro⟨pre,suf⟩ ⟨he,hs⟩
   dsimp only at he hs⊢
   clear hcon hl1 hl2 hl3
   have hll:=ints_len (ixs (pre++x0::suf))
   have hlx:=ixs_len (pre++x0::suf)
   rw [List.length_append,List.length_cons]at hlx
   have hstop:(∀y,pre.getLast? =some y→¬x0.lt y)→quL n p (dR ms) l (i+1)=pre++x0::suf:=fun h=>by
    rw [hnx,←he]
    exact insW_stop (by rw [he];exact hq3) hs h
   have hout:quL n p (dR ms) l (i+1)=pre++x0::suf→∀z∈quL n p (dR ms) l (i+1),upd A i a z.i=z.a:=fun h z hz=>by
    rw [h]at hz
    rcases List.mem_append.1 hz with hz|hz
    ·exact congrArg Wt.a (hA2 z (by rw [←he];exact List.mem_append_left _ hz))
    ·rcases List.mem_cons.1 hz with rfl|hz
     ·rw [hx0i];exact congrArg Wt.a hA3
     ·exact congrArg Wt.a (hA2 z (by rw [←he];exact List.mem_append_right _ hz))
   rcases List.eq_nil_or_concat pre with rfl|⟨pr,y,hpy⟩
   ·have hq:=hstop fun y hy=>by simp at hy
    have hao:=hout hq
    rw [show((([]:List Wt).length :Nat):Int)=0 from rfl]
    (repeat' (conv=>whnf);first|refine aC ?_ ?_<;>intro<;>try omega|refine z2_S9 ?_|fail);all_goals try (conv=>whnf)
    exact⟨(i+1,upd A i a),[0,1,2,3],⟨by dsimp only;omega,hao⟩,by dsimp only;omega,by dsimp only;rw [hq];(exact aL)⟩
   ·rw [List.concat_eq_append]at hpy
    subst hpy
    have hyq:y∈q:=by rw [←he];simp
    have hyi:=(hq1 y hyq).1
    have hgl:(pr++[y]).getLast? =some y:=by simp
    have hpl2:(pr++[y]).length =pr.length+1:=by simp
    have g1:(ints (ixs (pr++[y]++x0::suf)))[pr.length+1]? =some [i64 i]:=by
     rw [←hx0i,←hpl2];simp [ints,ixs]
    have g0:(ints (ixs (pr++[y]++x0::suf)))[pr.length]? =some [i64 y.i]:=by simp [ints,ixs]
    have g2:((ints (ixs (pr++[y]++x0::suf))).set (pr.length+1) [i64 y.i]).set pr.length [i64 i]=ints (ixs (pr++x0::y::suf)):=by
     rw [←hx0i]
     simp [ints,ixs,List.set_append]
    have g3:((ints (ixs (pr++[y]++x0::suf))).set (pr.length+1) [i64 y.i])[pr.length]? =some [i64 y.i]:=by rw [List.getElem?_set_ne (by omega)];exact g0
    have hprl:pr.length+1+suf.length=q.length:=by rw [←he];simp;omega
    rw [hpl2]at hlx⊢
    (repeat' (conv=>whnf);first|refine aC ?_ ?_<;>intro<;>try omega|refine z2_S9 ?_|refine⟨pr.length+1,rfl,by omega,?_⟩|refine⟨pr.length,by omega,by omega,?_⟩|refine⟨_,g1,?_⟩|refine⟨_,g0,?_⟩|fail);all_goals try (conv=>whnf)
    refine aM [2] (ahead_ok p (upd A i a) i y.i hil (by omega)) rfl rfl ?_
    rintro _ _ ⟨rfl,P,hP,rfl⟩
    rw [hA3,hA2 y hyq]at hP
    (repeat' (conv=>whnf);first|refine aC ?_ ?_<;>intro<;>try omega|refine z2_S9 ?_|refine⟨pr.length+1,rfl,by omega,?_⟩|refine⟨pr.length,by omega,by omega,?_⟩|refine⟨pr.length,by omega,by rw [List.length_set];omega,?_⟩|refine⟨_,g1,?_⟩|refine⟨_,g0,?_⟩|refine⟨_,g3,?_⟩|fail);all_goals try (conv=>whnf)
    ·have hlt:=hP.1 (by assumption)
     exact⟨(pr,y::suf),[0,1,2,3],⟨by dsimp only;rw [←he];simp,fun z hz=>by
      rcases List.mem_cons.1 hz with rfl|hz
      ·exact hlt
      ·exact hs z hz⟩,by dsimp only;omega,by dsimp only;rw [g2];(exact aL)⟩
    ·have hnl:¬x0.lt y:=fun h=>absurd (hP.2 h) (by assumption)
     have hq:=hstop fun z hz=>by rw [hgl]at hz;cases hz;exact hnl
     have hao:=hout hq
     exact⟨(i+1,upd A i a),[0,1,2,3],⟨by dsimp only;omega,hao⟩,by dsimp only;omega,by dsimp only;rw [hq];(exact aL)⟩
 ·obtain rfl:i=p.length:=by omega
  generalize quL n p (dR ms) l p.length=q at*
  have hix:=ixs_len q
  have hiv:=ints_len (ixs q)
  have hvl:=ivs_len p.length A
  have hfl:=fll n.fl
  (repeat' (conv=>whnf);first|refine aC ?_ ?_<;>intro<;>try omega|refine z2_S9 ?_|fail);all_goals try (conv=>whnf)
  refine LoopOb.mk (Y:=Nat) (st:=fun k=>⟨[(17,i64 k),(16, .vec 4),(11, .vec 3),(10, .vec 2),(6, .ptr 1 0),(4, .ptr 0 0),(1, .psl 3 (pks p))],[nbx n, .box [.psl 1 (trs ms)], .vec 1 (ivs p.length A), .vec 1 (ints (ixs q)), .vec 3 (pks ((pkq (toF n p) q).take k))]⟩)
   (inv:=fun k=>k≤q.length) (fun k=>q.length-k) 0 [0,1,2,3,4] (by omega) (by(exact aL)) ?_
  rintro k hk
  have hpk:=pks_len ((pkq (toF n p) q).take k)
  have hpk2:((pkq (toF n p) q).take k).length =k:=by rw [List.length_take,pkq_len];omega
  by_cases hkl:k<q.length
  ·obtain⟨x,hx⟩:∃x:Wt,q[k]=x:=⟨_,rfl⟩
   have hxq:x∈q:=by rw [←hx];exact List.getElem_mem hkl
   obtain⟨x1,x2,x3⟩:=hq1 x hxq
   have hxa:=hA x hxq
   have gw:(ints (ixs q))[k]? =some [i64 x.i]:=by simp [ints,ixs,hkl,hx]
   have gp:=pks_get x1
   obtain⟨f1,f2⟩:=hR.f x.i x1
   have hfg:=flg (l:=n.fl) (i:=(p.getD x.i pk0).f.toNat) (by omega)
   have ga:=ivs_get (f:=A) x1
   have hnx:pks ((pkq (toF n p) q).take k)++[[i64 (pfl n (p.getD x.i pk0)).cl,i64 x.a,i64 (p.getD x.i pk0).s]]=pks ((pkq (toF n p) q).take (k+1)):=by
    rw [List.take_succ_eq_append_getElem (by rw [pkq_len];exact hkl)]
    simp [pks,pkq,hx,toF,pkw]
   rw [hxa]at ga
   unfold pfl at hnx
   obtain⟨z,hz⟩:∃z,p.getD x.i pk0=z:=⟨_,rfl⟩
   rw [hz]at gp f1 f2 hfg hnx
   obtain⟨w,hw⟩:∃w,n.fl.getD z.f.toNat fl0=w:=⟨_,rfl⟩
   rw [hw]at hfg hnx
   (repeat' (conv=>whnf);first|refine⟨z.f.toNat,_,by omega,hfg,?_⟩|refine⟨x.i,_,rfl,gp,?_⟩|refine aC ?_ ?_<;>intro<;>try omega|refine z2_S9 ?_|refine⟨k,rfl,by omega,?_⟩|refine⟨x.i,rfl,by omega,?_⟩|refine⟨_,gw,?_⟩|refine⟨_,ga,?_⟩|fail);all_goals try (conv=>whnf)
   exact⟨k+1,[0,1,2,3,7],by omega,by omega,by rw [←hnx];(exact aL)⟩
  ·obtain rfl:k=q.length:=by omega
   have e:(pkq (toF n p) q).take q.length=pkq (toF n p) q:=List.take_of_length_le (by rw [pkq_len];omega)
   rw [e]
   (repeat' (conv=>whnf);first|refine aC ?_ ?_<;>intro<;>try omega|refine z3_S9 ?_|fail);all_goals try (conv=>whnf)
   refine .mk [.wk [4,3] ⟨[(8, .vec 0),(9, .vec 1)],[.vec 3 (pks (pkq (toF n p) q)), .vec 1 (ints (ixs q))]⟩] ?_
   refine⟨by(exact aL),?_⟩
   (repeat' (conv=>whnf);first|refine aC ?_ ?_<;>intro<;>try omega|refine z3_S9 ?_|fail);all_goals try (conv=>whnf)
   exact⟨rfl,rfl⟩
end
section
open Go.Sx Go.Pk Go.Mc
theorem pri_none {f:Int→Option Nat}:∀{n:Nat},pri f n=none↔∀c:Nat,c<n→f c=none
 |0=>by simp [pri]
 |n+1=>by
  simp only [pri]
  cases h:pri f n with
  |some i=>
   obtain⟨c,h1,h2⟩:=pri_some h
   simp only [reduceCtorEq,false_iff]
   intro h3
   rw [h3 c (by omega)]at h2;cases h2
  |none=>
   have ih:=pri_none.1 h
   simp only
   constructor
   ·intro h2 c hc
    by_cases e:c=n
    ·subst e;exact h2
    ·exact ih c (by omega)
   ·intro h2;exact h2 n (by omega)
theorem pri_le {f:Int→Option Nat} {c:Nat} {i:Nat} (h:∀d:Nat,d<c→f d=none) (hi:f c=some i):∀{n:Nat},c<n→pri f n=some i
 |0,h2=>by omega
 |n+1,h2=>by
  simp only [pri]
  by_cases e:c=n
  ·subst e
   rw [pri_none.2 h];exact hi
  ·rw [pri_le h hi (n:=n) (by omega)]
end
section
open Go.Sx Go.Pk Go.Mc
theorem ahd_step {tb:List Int} {c:Int} {t:Nat} {n k:Nat} (h:∀j,j<n→tb.getD ((t+j)%tb.length) 0=c) (hn:tb.getD ((t+n)%tb.length) 0≠c):n<k→ahd tb c t k=some n:=by
 have h0:∀m,m≤n→ahd tb c t m=none:=by
  intro m
  induction m with
  |zero=>intro _;rfl
  |succ m ih=>intro hm;rw [ahd,ih (by omega)];simp only;rw [if_neg (by rw [h m (by omega)];simp)]
 induction k with
 |zero=>intro hk;omega
 |succ k ih=>
  intro hk
  by_cases e:n=k
  ·subst e;rw [ahd,h0 n (by omega)];simp only;rw [if_pos hn]
  ·rw [ahd,ih (by omega)]
theorem ahd_none {tb:List Int} {c:Int} {t:Nat}:∀{n:Nat},(∀j,j<n→tb.getD ((t+j)%tb.length) 0=c)→ahd tb c t n=none
 |0,_=>rfl
 |n+1,h=>by rw [ahd,ahd_none fun j hj=>h j (by omega)];simp only;rw [if_neg (by rw [h n (by omega)];simp)]
theorem ahd_lt {tb:List Int} {c:Int} {t:Nat}:∀{k n:Nat},ahd tb c t k=some n→n<k
 |0,n,h=>by cases h
 |k+1,n,h=>by
  simp only [ahd]at h
  split at h
  ·rename_i j hj
   have:=ahd_lt hj
   simp only [Option.some.injEq]at h
   omega
  ·split at h
   ·simp only [Option.some.injEq]at h;omega
   ·cases h
end
section
open Go.Sx Go.Pk Go.Mc
structure WgP (wl:List Int) (N:Nat) (M:Int):Prop where
 l:wl.length=N
 w:∀c,c<N→1≤wl.getD c 0∧wl.getD c 0≤M
theorem rob_st {f:Int→Option Nat} {wl:Nat→Int} {N:Nat} {M:Int} (hN:1≤N) (hw:∀c,c<N→1≤wl c∧wl c≤M):∀{k:Nat} {s:Nat×Int},s.1<N→0≤s.2∧s.2≤M→(rob f wl N k s).1.1 <N∧0≤(rob f wl N k s).1.2 ∧(rob f wl N k s).1.2 ≤M
 |0,s,h1,h2=>⟨h1,h2⟩
 |k+1,s,h1,h2=>by
  have h3:(s.1+1)%N<N:=Nat.mod_lt _ hN
  have h4:=hw _ h3
  have ih:=rob_st (f:=f) hN hw (k:=k) (s:=((s.1+1)%N,wl ((s.1+1)%N))) h3 ⟨by simp only;omega,h4.2⟩
  simp only [rob]
  split
  ·split
   ·exact⟨h1,by simp only;omega,by simp only;omega⟩
   ·exact ih
  ·exact ih
theorem rob_rch {wl:List Int} {N:Nat} {M:Int} (hN:1≤N) (hw:WgP wl N M) {p:List Pk} {s:(robinC wl).σ} (h:Rch (robinC wl) p s):(s:Nat×Int).1 <N∧0≤(s:Nat×Int).2 ∧(s:Nat×Int).2 ≤M:=by
 induction h with
 |z=>exact⟨hN,by have:=hw.w 0 (by omega);exact⟨by show(0:Int)≤wl.getD 0 0;omega,this.2⟩⟩
 |@s t l w s _ ih=>
  show(Ch.ch (robinC wl) p t l w s).1.1 <N∧_
  simp only [robinC]
  split
  ·exact ih
  ·split
   ·rw [hw.l]
    exact rob_st hN (fun c hc=>hw.w c hc) ih.1 ih.2
   ·exact ih
end
end Go.Proofs.YtaomhdljcdadaaaGreat
