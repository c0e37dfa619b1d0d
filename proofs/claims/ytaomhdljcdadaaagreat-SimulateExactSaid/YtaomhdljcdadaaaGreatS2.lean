/- Lemmas that the proofs of this seat use (S2 N10). Conditions: those that stand in each theorem. -/
import Derived.Test.YtaomhdljcdadaaaGreatS8
import Derived.Test.YtaomhdljcdadaaaGreatPl
import Derived.Test.YtaomhdljcdadaaaGreatN9
set_option linter.unusedVariables false
set_option linter.unusedSimpArgs false
section
namespace Go.Proofs.YtaomhdljcdadaaaGreat
open Go.Sx Go.Pk Go.Mc
set_option maxRecDepth 4000
set_option maxHeartbeats 2000000
structure Sn (N:Nat) (len:Nat→Nat) (B:Int) (ms:List (List Int)):Prop where
 l:ms.length=N
 r:∀c,c<N→(ms.getD c []).length =len c
 v:∀c,c<N→∀k,0≤(ms.getD c []).getD k 0∧(ms.getD c []).getD k 0≤B
abbrev mtz (ms:List (List Int)):List (List (List SV)):=ms.map ints
theorem mtz_len (ms:List (List Int)):(mtz ms).length =ms.length:=by simp [mtz]
theorem mtz_get {ms:List (List Int)} {c:Nat} (h:c<ms.length):(mtz ms)[c]? =some (ints (ms.getD c [])):=by simp [mtz,h]
theorem mtz_set {ms:List (List Int)} {c:Nat} {r:List Int}:(mtz ms).set c (ints r)=mtz (ms.set c r):=by simp [mtz,List.map_set]
theorem Sn.set {N:Nat} {len len':Nat→Nat} {B B':Int} {ms:List (List Int)} (h:Sn N len B ms) (hB:B≤B') {c:Nat} (hc:c<N) {r:List Int} (h1:r.length=len' c) (h2:∀k,k≠c→len' k=len k) (h3:∀k,0≤r.getD k 0∧r.getD k 0≤B'):Sn N len' B' (ms.set c r):=by
 have hl:=h.l
 have key:∀k,k<N→(ms.set c r).getD k []=if k=c then r else ms.getD k []:=fun k hk=>by
  rw [List.getD_eq_getElem?_getD,List.getElem?_set]
  by_cases e:c=k
  ·subst e;rw [if_pos rfl,if_pos (by omega),if_pos rfl];rfl
  ·rw [if_neg e,if_neg (fun e'=>e e'.symm),List.getD_eq_getElem?_getD]
 refine⟨by rw [List.length_set];exact hl,fun k hk=>?_,fun k hk j=>?_⟩
 ·rw [key k hk];split
  ·rename_i e;subst e;exact h1
  ·rename_i e;rw [h2 k e];exact h.r k hk
 ·rw [key k hk];split
  ·exact h3 j
  ·have:=h.v k hk j;omega
theorem Sn.up {N:Nat} {len:Nat→Nat} {B B':Int} {ms:List (List Int)} (h:Sn N len B ms) (hB:B≤B'):Sn N len B' ms:=⟨h.l,h.r,fun c hc k=>by have:=h.v c hc k;omega⟩
theorem getD_app {l:List Int} {x:Int} {k:Nat}:(l++[x]).getD k 0=if k<l.length then l.getD k 0 else if k=l.length then x else 0:=by
 rw [List.getD_eq_getElem?_getD,List.getElem?_append]
 split
 ·rw [List.getD_eq_getElem?_getD]
 ·rename_i h
  split
  ·rename_i e;subst e;simp
  ·rw [List.getElem?_eq_none (by simp;omega)];rfl
theorem getD_setI {l:List Int} {x:Int} {j k:Nat} (hj:j<l.length):(l.set j x).getD k 0=if k=j then x else l.getD k 0:=by
 rw [List.getD_eq_getElem?_getD,List.getElem?_set]
 by_cases e:j=k
 ·subst e;rw [if_pos rfl,if_pos hj,if_pos rfl];rfl
 ·rw [if_neg e,if_neg (fun e'=>e e'.symm),List.getD_eq_getElem?_getD]
theorem ivs_congr {m:Nat} {f g:Nat→Int} (h:∀b,b<m→f b=g b):ivs m f=ivs m g:=List.map_congr_left fun b hb=>by rw [h b (List.mem_range.1 hb)]
def neg (i:Nat):Nat→Int:=fun j=>if j<i then-1 else 0
theorem neg_zero:neg 0=fun _=>0:=funext fun j=>if_neg (by omega)
theorem neg_set {n i:Nat}:(ivs n (neg i)).set i [i64 (-1)]=ivs n (neg (i+1)):=by
 rw [ivs_set]
 refine ivs_congr fun j _=>?_
 unfold neg
 by_cases e:j=i
 ·subst e;rw [upd_same,if_pos (by omega)]
 ·rw [upd_ne e]
  by_cases h:j<i
  ·rw [if_pos h,if_pos (by omega)]
  ·rw [if_neg h,if_neg (by omega)]
theorem neg_all (n:Nat):ivs n (neg n)=ivs n fun _=> -1:=ivs_congr fun j hj=>if_pos hj
def rw0 (N k:Nat):List (List Int):=(List.range N).map fun c=>if c<k then [0]else []
theorem rw0_len (N k:Nat):(rw0 N k).length =N:=by simp [rw0]
theorem rw0_zero (N:Nat):List.replicate N []=mtz (rw0 N 0):=by
 apply List.ext_getElem?;intro j
 by_cases h:j<N<;>simp [mtz,rw0,h,ints]
theorem rw0_set {N k:Nat}:(mtz (rw0 N k)).set k [[i64 0]]=mtz (rw0 N (k+1)):=by
 rw [show([[i64 0]]:List (List SV))=ints [0]from rfl,mtz_set]
 congr 1
 apply List.ext_getElem?;intro j
 rw [List.getElem?_set]
 by_cases e:k=j
 ·subst e
  by_cases h:k<N
  ·rw [if_pos rfl,if_pos (by rw [rw0_len];exact h)];simp [rw0,h]
  ·rw [if_pos rfl,if_neg (by rw [rw0_len];exact h),List.getElem?_eq_none (by rw [rw0_len];omega)]
 ·rw [if_neg e]
  by_cases h:j<N
  ·simp only [rw0,List.getElem?_map,List.getElem?_range h,Option.map_some]
   congr 1
   by_cases h2:j<k
   ·rw [if_pos h2,if_pos (by omega)]
   ·rw [if_neg h2,if_neg (by omega)]
  ·rw [List.getElem?_eq_none (by rw [rw0_len];omega),List.getElem?_eq_none (by rw [rw0_len];omega)]
theorem rw0_sn (N:Nat):Sn N (fun _=>1) 0 (rw0 N N):=by
 have key:∀c,c<N→(rw0 N N).getD c []=[0]:=fun c hc=>by simp [rw0,hc]
 refine⟨rw0_len N N,fun c hc=>by rw [key c hc];rfl,fun c hc k=>?_⟩
 rw [key c hc]
 cases k<;>simp
def cI:Option (Nat×Nat)→Int
 |none=> -1
 |some c=>c.1
def cR:Option (Nat×Nat)→Int
 |none=>0
 |some c=>c.2
def Rq {σ:Type} (S:St σ):Prop:=∀c,S.cur=some c→1≤c.2∧c.2≤1500
structure RunI (C:Ch) (p:List Pk) (c N T t bef:Nat) (ms:List (List Int)):Prop where
 tt:t≤T
 b:Bf p (run C p c t).bg bef
 m:Sn N (fun _=>t+1) (4000*t) ms
 q:Rq (run C p c t)
inductive Rch (C:Ch) (p:List Pk):C.σ→Prop
 |z:Rch C p C.s0
 |s {t l:Nat} {w:Nat→Bool} {s:C.σ} (h:Rch C p s):Rch C p (C.ch p t l w s).1
theorem sel_rch {C:Ch} {p:List Pk} {t l:Nat} {S:St C.σ} (h:Rch C p S.s):Rch C p (Mc.sel C p t l S).1.s :=by
 unfold Mc.sel
 cases S.cur with
 |some c=>exact h
 |none=>
  simp only
  cases(C.ch p t l (wt p t S.bg) S.s).2 with
  |none=>exact h.s
  |some i=>exact h.s
theorem tk_rch {C:Ch} {p:List Pk} {t:Nat}:∀(l:Nat) {S:St C.σ},Rch C p S.s→Rch C p (tk C p t l S).s :=by
 intro l
 induction l using Nat.strongRecOn with
 |ind l ih=>
  intro S h
  cases l with
  |zero=>rw [tk];exact h
  |succ l=>
   rw [tk]
   have h1:=sel_rch (p:=p) (t:=t) (l:=l+1) h
   split
   ·exact h1
   ·split
    ·exact ih _ (by omega) h1
    ·exact h1
theorem run_rch {C:Ch} {p:List Pk} {c:Nat}:∀t,Rch C p (run C p c t).s
 |0=> .z
 |t+1=>tk_rch c (run_rch t)
structure TkI (C:Ch) (p:List Pk) (c N t left bef:Nat) (S:St C.σ) (ms:List (List Int)):Prop where
 l:left≤4000
 b:Bf p S.bg bef
 m:Sn N (fun _=>t+2) (4000*(t+1)-left) ms
 q:Rq S
 i:InvT p t S
 k:tk C p t left S=run C p c (t+1)
 v:Rch C p S.s
theorem RunI.of {C:Ch} {p:List Pk} {c N T t bef:Nat} {ms:List (List Int)} {S:St C.σ} {B:Int} (hT:t<T) (e:run C p c (t+1)=S) (hB:Bf p S.bg bef) (hm:Sn N (fun _=>t+2) B ms) (hB2:B≤4000*(t+1)) (hq:Rq S):RunI C p c N T (t+1) bef ms:=
 ⟨hT,by rw [e];exact hB,hm.up (by omega),by rw [e];exact hq⟩
def RunV (n:Nat) (dn:Nat→Int) (r:SV):Prop:=∃ms:List (List Int),ms.length≤6∧r= .agg [.psl 1 (ivs n dn), .psl 1 ((mtz ms).map fun m=>[.psl 1 m])]
theorem Chof_ok (p:List Pk) (hp:PL p) (t left:Nat) (bg:Nat→Bool) (s:fifoC.σ) (bef:Nat) (hB:Bf p bg bef):
  Ctr Tryz.prog 226 [.ptr 0 0] [stB t left p bef, .vec 1 (bls p.length bg)] (fun r o=>∃b2,Bf p bg b2∧o=[stB t left p b2, .vec 1 (bls p.length bg)]∧r=i64 (oI (fifoC.ch p t left (wt p t bg) s).2)):=First_ok p hp t left bg bef hB
theorem aP_S2 {A B K:Prop} (k:K) (a:A:=by(simp only [zA,zT,zD,zC,zN,ints_len,zR,Go.Cv.vals_len];omega)) (b:B:=by(simp only [zA,zT,zD,zC,zN,ints_len,zR,Go.Cv.vals_len];omega)):(A∧B)∧K:=⟨⟨a,b⟩,k⟩
theorem z1_S2 {G H:Prop} (k:H) (h:H→G:=by first|exact fun r=>aS r|exact fun r=>aG r|exact fun r=>aD r|exact fun r=>aH r|exact fun r=>aP_S2 r|exact fun r=>aI r|exact fun r=>aJ r):G:=h k
theorem Size_ok (p:List Pk) (hp:PL p) (t left:Int) (bg:Nat→Bool) (bef i:Nat) (hi:i<p.length):
  Ctr Tryz.prog 249 [.ptr 0 0,i64 i] [stB t left p bef, .vec 1 (bls p.length bg)] (fun r o=>o=[stB t left p bef, .vec 1 (bls p.length bg)]∧r=i64 (sz p i)):=by
 refine fn_intro (E:=env 2) tys_ok rfl rfl rfl Tryz.func249 (by kernel_rfl) rfl (by kernel_rfl) ?_
 have hpl:=pks_len p
 have hgp:=pks_get hi
 obtain⟨z1,z2⟩:=hp.s i hi
 have hzI:((sz p i:Nat):Int)=(p.getD i pk0).s :=by unfold sz;omega
 rw [hzI]
 generalize p.getD i pk0=x at*
 (repeat' (conv=>whnf);first|refine⟨i,_,rfl,hgp,?_⟩|(refine aC (fun _=>?_) (fun _=>?_)<;>try (exfalso;omega))|refine z1_S2 ?_|fail);all_goals try (conv=>whnf)
 exact⟨rfl,rfl⟩
end Go.Proofs.YtaomhdljcdadaaaGreat
end
section
namespace Go.Proofs.YtaomhdljcdadaaaGreat
open Go.Sx Go.Np Go.Cv
set_option maxRecDepth 4000
set_option maxHeartbeats 2000000
theorem idx_at {r:List Int} {l:Int}:∀{i:Nat},(∀j<i,¬r.getD j 0=l)→i<r.length→r.getD i 0=l→l∈r∧r.idxOf l=i:=by
 intro i hv hi e
 have hm:l∈r:=by rw [←e];exact getD_in hi
 refine⟨hm,?_⟩
 have h1:=List.idxOf_lt_length_of_mem hm
 have h2:r[r.idxOf l]=l:=List.getElem_idxOf h1
 have h3:r.getD (r.idxOf l) 0=l:=by rw [List.getD_eq_getElem?_getD,List.getElem?_eq_getElem h1,Option.getD_some];exact h2
 rcases Nat.lt_trichotomy (r.idxOf l) i with h|h|h
 ·exact absurd h3 (hv _ h)
 ·exact h
 ·have h4:r[i]=l:=by rw [←e,List.getD_eq_getElem?_getD,List.getElem?_eq_getElem hi,Option.getD_some]
  have:=List.not_of_lt_findIdx (p:=(· ==l)) (xs:=r) (i:=i) h
  simp [h4]at this
theorem aP_N10 {A B K:Prop} (k:K) (a:A:=by(simp only [zA,zT,zD,zC,zN,ints_len,zR,Go.Cv.vals_len];omega)) (b:B:=by(simp only [zA,zT,zD,zC,zN,ints_len,zR,Go.Cv.vals_len];omega)):(A∧B)∧K:=⟨⟨a,b⟩,k⟩
theorem z1_N10 {G H:Prop} (k:H) (h:H→G:=by first|exact fun r=>aS r|exact fun r=>aG r|exact fun r=>aD r|exact fun r=>aH r|exact fun r=>aP_N10 r|exact fun r=>aI r|exact fun r=>aJ r):G:=h k
theorem Hop_ok (n:Nt) (hn:NL n) (f l:Int):Ctr Tryz.prog 65 [ntv n,i64 f,i64 l] [] (fun r o=>o=[]∧r=i64 (hop n f l)):=by
 refine fn_intro (E:=env 0) tys_ok rfl rfl rfl Tryz.func65 (by kernel_rfl) rfl (by kernel_rfl) ?_
 have hfl:=fll n.fl
 have h3:=hn.fl
 (repeat' (conv=>whnf);first|(refine aC (fun _=>?_) (fun _=>?_)<;>try (exfalso;omega))|refine z1_N10 ?_|fail);all_goals try (conv=>whnf)
 ·exact⟨rfl,by unfold hop;rw [if_pos (by omega)];rfl⟩
 ·exact⟨rfl,by unfold hop;rw [if_pos (by omega)];rfl⟩
 have hil:f.toNat<n.fl.length:=by omega
 have hg:=flg hil
 have hL:=(hn.flat hil).rt
 have hE:hop n f l=if l∈(n.fl.getD f.toNat fl0).rt then(((n.fl.getD f.toNat fl0).rt.idxOf l:Nat):Int)else-1:=by unfold hop;rw [if_neg (by omega)]
 generalize hop n f l=E at*
 generalize n.fl.getD f.toNat fl0=g at*
 have hrl:=ints_len g.rt
 (repeat' (conv=>whnf);first|(refine aC (fun _=>?_) (fun _=>?_)<;>try (exfalso;omega))|refine z1_N10 ?_|refine⟨f.toNat,_,by omega,hg,?_⟩|fail);all_goals try (conv=>whnf)
 refine LoopOb.mk (Y:=Nat) (st:=fun i=>⟨[(25,i64 i),(24,i64 (ints g.rt).length),(23, .psl 1 (ints g.rt)),(2,i64 l)],[.box [.psl 1 (strs n.nm), .psl 5 (lns n.ln), .psl 8 (fls n.fl)]]⟩)
  (inv:=fun i=>i≤g.rt.length∧∀j<i,¬g.rt.getD j 0=l) (fun i=>g.rt.length-i) 0 [0] ⟨by omega,by omega⟩ (by(exact aL)) ?_
 rintro i ⟨hi,hv⟩
 (repeat' (conv=>whnf);first|refine z1_N10 ?_|refine⟨f.toNat,_,by omega,hg,?_⟩|fail);all_goals try (conv=>whnf)
 refine CondOb.mk (fun hlt=>?_) (fun hlt=>?_)
 ·have hst:¬g.rt.getD i 0=l→∀j<i+1,¬g.rt.getD j 0=l:=fun h j hj=>by
   by_cases e:j=i
   ·rw [e];exact h
   ·exact hv j (by omega)
  (repeat' (conv=>whnf);first|(refine aC (fun _=>?_) (fun _=>?_)<;>try (exfalso;omega))|refine z1_N10 ?_|refine⟨f.toNat,_,by omega,hg,?_⟩|fail);all_goals try (conv=>whnf)
  ·obtain⟨h1,h2⟩:=idx_at hv (by omega) (by assumption)
   exact⟨rfl,by rw [hE,if_pos h1,h2];rfl⟩
  ·exact⟨i+1,[0],⟨by omega,hst (by assumption)⟩,by omega,by(exact aL)⟩
 ·(repeat' (conv=>whnf);first|(refine aC (fun _=>?_) (fun _=>?_)<;>try (exfalso;omega))|refine z1_N10 ?_|fail);all_goals try (conv=>whnf)
  exact⟨rfl,by rw [hE,if_neg (idx_no fun j hj=>hv j (by omega))];rfl⟩
theorem rHop_ok (n:Nt) (hn:NL n) (f l:Int):Ctr Tryz.prog 21 [ntv n,i64 f,i64 l] [] (fun r o=>o=[]∧r=i64 (hop n f l)):=by
 refine fn_intro (E:=env 0) tys_ok rfl rfl rfl Tryz.func21 (by kernel_rfl) rfl (by kernel_rfl) ?_
 have hfl:=fll n.fl
 have h3:=hn.fl
 (repeat' (conv=>whnf);first|(refine aC (fun _=>?_) (fun _=>?_)<;>try (exfalso;omega))|refine z1_N10 ?_|fail);all_goals try (conv=>whnf)
 ·exact⟨rfl,by unfold hop;rw [if_pos (by omega)];rfl⟩
 ·exact⟨rfl,by unfold hop;rw [if_pos (by omega)];rfl⟩
 have hil:f.toNat<n.fl.length:=by omega
 have hg:=flg hil
 have hL:=(hn.flat hil).rt
 have hE:hop n f l=if l∈(n.fl.getD f.toNat fl0).rt then(((n.fl.getD f.toNat fl0).rt.idxOf l:Nat):Int)else-1:=by unfold hop;rw [if_neg (by omega)]
 generalize hop n f l=E at*
 generalize n.fl.getD f.toNat fl0=g at*
 have hrl:=ints_len g.rt
 refine LoopOb.mk (Y:=Nat) (st:=fun i=>⟨[(7,i64 i),(3, .ptr 0 0),(1,i64 f),(2,i64 l)],[.box [.psl 1 (strs n.nm), .psl 5 (lns n.ln), .psl 8 (fls n.fl)]]⟩)
  (inv:=fun i=>i≤g.rt.length∧∀j<i,¬g.rt.getD j 0=l) (fun i=>g.rt.length-i) 0 [0] ⟨by omega,by omega⟩ (by(exact aL)) ?_
 rintro i ⟨hi,hv⟩
 (repeat' (conv=>whnf);first|refine z1_N10 ?_|refine⟨f.toNat,_,by omega,hg,?_⟩|fail);all_goals try (conv=>whnf)
 refine CondOb.mk (fun hlt=>?_) (fun hlt=>?_)
 ·have hst:¬g.rt.getD i 0=l→∀j<i+1,¬g.rt.getD j 0=l:=fun h j hj=>by
   by_cases e:j=i
   ·rw [e];exact h
   ·exact hv j (by omega)
  (repeat' (conv=>whnf);first|(refine aC (fun _=>?_) (fun _=>?_)<;>try (exfalso;omega))|refine z1_N10 ?_|refine⟨f.toNat,_,by omega,hg,?_⟩|fail);all_goals try (conv=>whnf)
  ·obtain⟨h1,h2⟩:=idx_at hv (by omega) (by assumption)
   exact⟨rfl,by rw [hE,if_pos h1,h2];rfl⟩
  ·exact⟨i+1,[0],⟨by omega,hst (by assumption)⟩,by omega,by(exact aL)⟩
 ·(repeat' (conv=>whnf);first|(refine aC (fun _=>?_) (fun _=>?_)<;>try (exfalso;omega))|refine z1_N10 ?_|fail);all_goals try (conv=>whnf)
  exact⟨rfl,by rw [hE,if_neg (idx_no fun j hj=>hv j (by omega))];rfl⟩
end Go.Proofs.YtaomhdljcdadaaaGreat
end
