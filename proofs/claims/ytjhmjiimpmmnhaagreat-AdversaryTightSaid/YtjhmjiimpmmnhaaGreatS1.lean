/- Lemmas of this seat. Conditions: as stated. -/
import Derived.Test.YtjhmjiimpmmnhaaGreatMtt
import Derived.Test.YtjhmjiimpmmnhaaGreatTy
import Derived.Test.YtjhmjiimpmmnhaaGreatR1
import Derived.Test.YtjhmjiimpmmnhaaGreatPl
set_option linter.unusedVariables false
set_option linter.unusedSimpArgs false
set_option maxHeartbeats 2000000
set_option maxRecDepth 4000
namespace Go.Proofs.YtjhmjiimpmmnhaaGreat
section
open Go.Sx Go.Pk Go.Mc
structure Bf (p:List Pk) (bg:Nat→Bool) (bef:Nat):Prop where
 l:bef≤p.length
 b:∀j,j<bef→bg j=true
theorem fst_bf {p:List Pk} (hp:PL p) {now:Nat} {bg:Nat→Bool} {bef:Nat} (h:Bf p bg bef) (hb:¬(bef<p.length∧bg bef=true)):
  fst (wt p now bg) p.length=if bef<p.length∧tm p bef≤now then some bef else none:=by
 split
 ·rename_i hh
  refine fst_some.2 ⟨hh.1,wt_iff.2 ⟨hh.1,hh.2,?_⟩,fun j hj=>?_⟩
  ·cases e:bg bef with
   |false=>rfl
   |true=>exact absurd ⟨hh.1,e⟩ hb
  ·cases e:wt p now bg j with
   |false=>rfl
   |true=>have:=(wt_iff.1 e).2.2;rw [h.b j hj]at this;cases this
 ·rename_i hh
  refine fst_none.2 fun j hj=>?_
  cases e:wt p now bg j with
  |false=>rfl
  |true=>
   obtain⟨e1,e2,e3⟩:=wt_iff.1 e
   rcases Nat.lt_or_ge j bef with h1|h1
   ·rw [h.b j h1]at e3;cases e3
   ·have:=hp.a bef j h1 hj
    exact absurd ⟨by omega,by omega⟩ hh
theorem z1_S1 {G H:Prop} (k:H) (h:H→G:=by first|exact fun r=>aS r|exact fun r=>aG r|exact fun r=>aD r|exact fun r=>aH r|exact fun r=>aP_R1 r|exact fun r=>aI r|exact fun r=>aJ r|exact fun r=>aW (.qs [0,1,2,3,4,5,6,7,8,9,10,11,12,13,14,15,16,17,18,19,20,21] .nil) r|exact fun r=>aW (.qs [0,1,2,3,4,5,6,7,8,9,10,11,12,13,14,15,16,17,18,19,20,21,22,23,24,25,26,27] .nil) r):G:=h k
theorem First_ok (p:List Pk) (hp:PL p) (now:Nat) (left:Int) (bg:Nat→Bool) (bef:Nat) (hB:Bf p bg bef):
  Ctr Tryz.prog 248 [.ptr 0 0] [stB now left p bef, .vec 1 (bls p.length bg)] (fun r o=>∃b2,Bf p bg b2∧o=[stB now left p b2, .vec 1 (bls p.length bg)]∧r=i64 (oI (fst (wt p now bg) p.length))):=by
 refine fI 2 Tryz.func248 ?_
 have hpl:=pks_len p
 have hbl:=bls_len p.length bg
 have h60:=hp.l
 (repeat' (conv=>whnf);first|refine aC ?_ ?_<;>intro<;>try omega|refine z1_S1 ?_|fail);all_goals try (conv=>whnf)
 refine LoopOb.mk (Y:=Nat) (st:=fun b=>⟨[(2,i64 0),(0, .ptr 0 0)],[stB now left p b, .vec 1 (bls p.length bg)]⟩) (inv:=fun b=>Bf p bg b) (fun b=>p.length-b) bef [0,1] hB (by(exact aL)) ?_
 rintro b hb
 have hb1:=hb.l
 have hft:=fun h=>fst_bf hp (now:=now) hb h
 have hst:b<p.length→bg b=true→Bf p bg (b+1):=fun h1 h2=>⟨by omega,fun j hj=>by
  by_cases e:j=b
  ·rw [e];exact h2
  ·exact hb.b j (by omega)⟩
 by_cases hbl2:b<p.length
 ·have hgb:=bls_get (f:=bg) hbl2
  have hgp:=pks_get hbl2
  rw [show tm p b=(p.getD b pk0).t from rfl]at hft
  generalize p.getD b pk0=x at*
  cases hv:bg b with
  |true=>
   rw [hv]at hgb
   (repeat' (conv=>whnf);first|refine z1_S1 ?_|refine⟨b,rfl,by omega,?_⟩|refine⟨_,hgb,?_⟩|refine CondOb.mk (fun _=>?_) (fun _=>by omega)|fail);all_goals try (conv=>whnf)
   exact⟨b+1,[0,1],hst hbl2 hv,by omega,by(exact aL)⟩
  |false=>
   rw [hv]at hgb hft
   have hft:=hft (by simp)
   (repeat' (conv=>whnf);first|refine⟨b,_,rfl,hgp,?_⟩|refine aC ?_ ?_<;>intro<;>try omega|refine z1_S1 ?_|refine⟨b,rfl,by omega,?_⟩|refine⟨_,hgb,?_⟩|fail);all_goals try (conv=>whnf)
   ·exact⟨b,hb,rfl,by rw [hft,if_pos ⟨hbl2,by assumption⟩];rfl⟩
   ·exact⟨b,hb,rfl,by rw [hft,if_neg (fun h=>absurd h.2 (by assumption))];rfl⟩
 ·(repeat' (conv=>whnf);first|refine aC ?_ ?_<;>intro<;>try omega|refine z1_S1 ?_|fail);all_goals try (conv=>whnf)
  exact⟨b,hb,rfl,by rw [hft (fun h=>hbl2 h.1),if_neg (fun h=>hbl2 h.1)];rfl⟩
theorem z2_S1 {G H:Prop} (k:H) (h:H→G:=by first|exact fun r=>aS r|exact fun r=>aG r|exact fun r=>aD r|exact fun r=>aH r|exact fun r=>aP_R1 r|exact fun r=>aI r|exact fun r=>aJ r|exact fun r=>aW (.qs [0,1,2,3,4,5,6,7,8,9,10,11,12,13,14,15,16,17,18,19,20,21] .nil) r):G:=h k
theorem Next_ok (p:List Pk) (hp:PL p) (now:Nat) (left c:Int) (bg:Nat→Bool) (bef:Nat) (hB:Bf p bg bef):
  Ctr Tryz.prog 254 [.ptr 0 0,i64 c] [stB now left p bef, .vec 1 (bls p.length bg)] (fun r o=>∃b2,Bf p bg b2∧o=[stB now left p b2, .vec 1 (bls p.length bg)]∧r=i64 (oI (fc p (wt p now bg) c))):=by
 refine fI 2 Tryz.func254 ?_
 have hpl:=pks_len p
 have hbl:=bls_len p.length bg
 have h60:=hp.l
 (repeat' (conv=>whnf);first|refine aC ?_ ?_<;>intro<;>try omega|refine z2_S1 ?_|fail);all_goals try (conv=>whnf)
 refine aM [0,1] (First_ok p hp now left bg bef hB) rfl rfl ?_
 rintro _ _ ⟨b2,hB2,rfl,rfl⟩
 have hB3:=hB2.l
 obtain⟨i0,hi0,hi1,hi2⟩:∃i0:Nat,max 0 (oI (fst (wt p now bg) p.length))=i0∧i0≤p.length∧∀j,j<i0→wt p now bg j=false:=by
  cases hf:fst (wt p now bg) p.length with
  |none=>exact⟨0,rfl,Nat.zero_le _,fun j hj=>by omega⟩
  |some i=>
   obtain⟨f1,f2,f3⟩:=fst_some.1 hf
   exact⟨i,by unfold oI;simp only;omega,by omega,f3⟩
 (repeat' (conv=>whnf);first|refine aC ?_ ?_<;>intro<;>try omega|refine z2_S1 ?_|fail);all_goals try (conv=>whnf)
 rw [hi0]
 refine LoopOb.mk (Y:=Nat) (st:=fun i=>⟨[(5,i64 i),(4,i64 0),(0, .ptr 0 0),(1,i64 c)],[stB now left p b2, .vec 1 (bls p.length bg)]⟩)
  (inv:=fun i=>i≤p.length∧∀j,j<i→cl p j=c→wt p now bg j=false) (fun i=>p.length-i) i0 [0,1] ⟨hi1,fun j hj _=>hi2 j hj⟩ (by(exact aL)) ?_
 clear hi0 hi1 hi2 i0
 rintro i ⟨hi,hv⟩
 have hno:¬(i<p.length∧tm p i≤now)→fc p (wt p now bg) c=none:=fun h=>fc_none.2 fun j hj hc=>by
  rcases Nat.lt_or_ge j i with h1|h1
  ·exact hv j h1 hc
  ·cases e:wt p now bg j with
   |false=>rfl
   |true=>
    have:=(wt_iff.1 e).2.1
    have:=hp.a i j h1 hj
    exact absurd ⟨by omega,by omega⟩ h
 by_cases hil:i<p.length
 ·have hgb:=bls_get (f:=bg) hil
  have hgp:=pks_get hil
  have hyes:tm p i≤now→bg i=false→cl p i=c→fc p (wt p now bg) c=some i:=fun h1 h2 h3=>fc_some.2 ⟨hil,wt_iff.2 ⟨hil,h1,h2⟩,h3,hv⟩
  have hst:(cl p i=c→wt p now bg i=false)→∀j,j<i+1→cl p j=c→wt p now bg j=false:=fun h j hj hc=>by
   by_cases e:j=i
   ·subst e;exact h hc
   ·exact hv j (by omega) hc
  have hwf:bg i=true→wt p now bg i=false:=fun h=>by
   cases e:wt p now bg i with
   |false=>rfl
   |true=>have:=(wt_iff.1 e).2.2;rw [h]at this;cases this
  rw [show tm p i=(p.getD i pk0).t from rfl]at hno hyes
  rw [show cl p i=(p.getD i pk0).f from rfl]at hst hyes
  generalize p.getD i pk0=x at*
  cases hbv:bg i with
  |true=>
   rw [hbv]at hgb
   (repeat' (conv=>whnf);first|refine⟨i,_,rfl,hgp,?_⟩|refine aC ?_ ?_<;>intro<;>try omega|refine z2_S1 ?_|refine⟨i,rfl,by omega,?_⟩|refine⟨_,hgb,?_⟩|fail);all_goals try (conv=>whnf)
   all_goals first
    |exact⟨b2,hB2,rfl,by rw [hno (fun h=>absurd h.2 (by assumption))];rfl⟩
    |exact⟨i+1,[0,1],⟨by omega,hst fun _=>hwf hbv⟩,by omega,by(exact aL)⟩
    |trace_state
  |false=>
   rw [hbv]at hgb
   (repeat' (conv=>whnf);first|refine⟨i,_,rfl,hgp,?_⟩|refine aC ?_ ?_<;>intro<;>try omega|refine z2_S1 ?_|refine⟨i,rfl,by omega,?_⟩|refine⟨_,hgb,?_⟩|fail);all_goals try (conv=>whnf)
   all_goals first
    |exact⟨b2,hB2,rfl,by rw [hno (fun h=>absurd h.2 (by assumption))];rfl⟩
    |exact⟨b2,hB2,rfl,by rw [hyes (by assumption) hbv (by assumption)];rfl⟩
    |exact⟨i+1,[0,1],⟨by omega,hst fun h=>absurd h (by assumption)⟩,by omega,by(exact aL)⟩
    |trace_state
 ·(repeat' (conv=>whnf);first|refine aC ?_ ?_<;>intro<;>try omega|refine z2_S1 ?_|fail);all_goals try (conv=>whnf)
  exact⟨b2,hB2,rfl,by rw [hno (fun h=>hil h.1)];rfl⟩
end
section
open Go.Sx Go.Pk Go.Mc
structure Sn (N:Nat) (len:Nat→Nat) (B:Int) (ms:List (List Int)):Prop where
 l:ms.length=N
 r:∀c,c<N→(ms.getD c []).length =len c
 v:∀c,c<N→∀k,0≤(ms.getD c []).getD k 0∧(ms.getD c []).getD k 0≤B
abbrev mtz (ms:List (List Int)):List (List (List SV)):=ms.map ints
theorem mtz_len (ms:List (List Int)):(mtz ms).length =ms.length:=by simp [mtz]
theorem mtz_get {ms:List (List Int)} {c:Nat} (h:c<ms.length):(mtz ms)[c]? =some (ints (ms.getD c [])):=by simp [mtz,h]
theorem mtz_set {ms:List (List Int)} {c:Nat} {r:List Int}:(mtz ms).set c (ints r)=mtz (ms.set c r):=by simp [mtz,List.map_set]
theorem Sn.set {N:Nat} {len len':Nat→Nat} {B B':Int} {ms:List (List Int)} (h:Sn N len B ms) (hB:B≤B') {c:Nat} (hc:c<N) {r:List Int} (h1:r.length=len' c) (h2:∀k,k≠c→len' k=len k) (h3:∀k,0≤r.getD k 0∧r.getD k 0≤B'):Sn N len' B' (ms.set c r):=by
 have hl:=h.l
 have key:∀k,k<N→(ms.set c r).getD k []=if k=c then r else ms.getD k []:=fun k hk=>by
  rw [List.getD_eq_getElem?_getD,List.getElem?_set]
  by_cases e:c=k
  ·subst e;rw [if_pos rfl,if_pos (by omega),if_pos rfl];rfl
  ·rw [if_neg e,if_neg (fun e'=>e e'.symm),List.getD_eq_getElem?_getD]
 refine⟨by rw [List.length_set];exact hl,fun k hk=>?_,fun k hk j=>?_⟩
 ·rw [key k hk];split
  ·rename_i e;subst e;exact h1
  ·rename_i e;rw [h2 k e];exact h.r k hk
 ·rw [key k hk];split
  ·exact h3 j
  ·have:=h.v k hk j;omega
theorem Sn.up {N:Nat} {len:Nat→Nat} {B B':Int} {ms:List (List Int)} (h:Sn N len B ms) (hB:B≤B'):Sn N len B' ms:=⟨h.l,h.r,fun c hc k=>by have:=h.v c hc k;omega⟩
theorem getD_app {l:List Int} {x:Int} {k:Nat}:(l++[x]).getD k 0=if k<l.length then l.getD k 0 else if k=l.length then x else 0:=by
 rw [List.getD_eq_getElem?_getD,List.getElem?_append]
 split
 ·rw [List.getD_eq_getElem?_getD]
 ·rename_i h
  split
  ·rename_i e;subst e;simp
  ·rw [List.getElem?_eq_none (by simp;omega)];rfl
theorem getD_setI {l:List Int} {x:Int} {j k:Nat} (hj:j<l.length):(l.set j x).getD k 0=if k=j then x else l.getD k 0:=by
 rw [List.getD_eq_getElem?_getD,List.getElem?_set]
 by_cases e:j=k
 ·subst e;rw [if_pos rfl,if_pos hj,if_pos rfl];rfl
 ·rw [if_neg e,if_neg (fun e'=>e e'.symm),List.getD_eq_getElem?_getD]
theorem ivs_congr {m:Nat} {f g:Nat→Int} (h:∀b,b<m→f b=g b):ivs m f=ivs m g:=List.map_congr_left fun b hb=>by rw [h b (List.mem_range.1 hb)]
def neg (i:Nat):Nat→Int:=fun j=>if j<i then-1 else 0
theorem neg_zero:neg 0=fun _=>0:=funext fun j=>if_neg (by omega)
theorem neg_set {n i:Nat}:(ivs n (neg i)).set i [i64 (-1)]=ivs n (neg (i+1)):=by
 rw [ivs_set]
 refine ivs_congr fun j _=>?_
 unfold neg
 by_cases e:j=i
 ·subst e;rw [upd_same,if_pos (by omega)]
 ·rw [upd_ne e]
  by_cases h:j<i
  ·rw [if_pos h,if_pos (by omega)]
  ·rw [if_neg h,if_neg (by omega)]
theorem neg_all (n:Nat):ivs n (neg n)=ivs n fun _=> -1:=ivs_congr fun j hj=>if_pos hj
def rw0 (N k:Nat):List (List Int):=(List.range N).map fun c=>if c<k then [0]else []
theorem rw0_len (N k:Nat):(rw0 N k).length =N:=by simp [rw0]
theorem rw0_zero (N:Nat):List.replicate N []=mtz (rw0 N 0):=by
 apply List.ext_getElem?;intro j
 by_cases h:j<N<;>simp [mtz,rw0,h,ints]
theorem rw0_set {N k:Nat}:(mtz (rw0 N k)).set k [[i64 0]]=mtz (rw0 N (k+1)):=by
 rw [show([[i64 0]]:List (List SV))=ints [0]from rfl,mtz_set]
 congr 1
 apply List.ext_getElem?;intro j
 rw [List.getElem?_set]
 by_cases e:k=j
 ·subst e
  by_cases h:k<N
  ·rw [if_pos rfl,if_pos (by rw [rw0_len];exact h)];simp [rw0,h]
  ·rw [if_pos rfl,if_neg (by rw [rw0_len];exact h),List.getElem?_eq_none (by rw [rw0_len];omega)]
 ·rw [if_neg e]
  by_cases h:j<N
  ·simp only [rw0,List.getElem?_map,List.getElem?_range h,Option.map_some]
   congr 1
   by_cases h2:j<k
   ·rw [if_pos h2,if_pos (by omega)]
   ·rw [if_neg h2,if_neg (by omega)]
  ·rw [List.getElem?_eq_none (by rw [rw0_len];omega),List.getElem?_eq_none (by rw [rw0_len];omega)]
theorem rw0_sn (N:Nat):Sn N (fun _=>1) 0 (rw0 N N):=by
 have key:∀c,c<N→(rw0 N N).getD c []=[0]:=fun c hc=>by simp [rw0,hc]
 refine⟨rw0_len N N,fun c hc=>by rw [key c hc];rfl,fun c hc k=>?_⟩
 rw [key c hc]
 cases k<;>simp
def cI:Option (Nat×Nat)→Int
 |none=> -1
 |some c=>c.1
def cR:Option (Nat×Nat)→Int
 |none=>0
 |some c=>c.2
def Rq {σ:Type} (S:St σ):Prop:=∀c,S.cur=some c→1≤c.2∧c.2≤1500
structure RunI (C:Ch) (p:List Pk) (c N T t bef:Nat) (ms:List (List Int)):Prop where
 tt:t≤T
 b:Bf p (run C p c t).bg bef
 m:Sn N (fun _=>t+1) (4000*t) ms
 q:Rq (run C p c t)
inductive Rch (C:Ch) (p:List Pk):C.σ→Prop
 |z:Rch C p C.s0
 |s {t l:Nat} {w:Nat→Bool} {s:C.σ} (h:Rch C p s):Rch C p (C.ch p t l w s).1
theorem sel_rch {C:Ch} {p:List Pk} {t l:Nat} {S:St C.σ} (h:Rch C p S.s):Rch C p (Mc.sel C p t l S).1.s :=by
 unfold Mc.sel
 cases S.cur with
 |some c=>exact h
 |none=>
  simp only
  cases(C.ch p t l (wt p t S.bg) S.s).2 with
  |none=>exact h.s
  |some i=>exact h.s
theorem tk_rch {C:Ch} {p:List Pk} {t:Nat}:∀(l:Nat) {S:St C.σ},Rch C p S.s→Rch C p (tk C p t l S).s :=by
 intro l
 induction l using Nat.strongRecOn with
 |ind l ih=>
  intro S h
  cases l with
  |zero=>rw [tk];exact h
  |succ l=>
   rw [tk]
   have h1:=sel_rch (p:=p) (t:=t) (l:=l+1) h
   split
   ·exact h1
   ·split
    ·exact ih _ (by omega) h1
    ·exact h1
theorem run_rch {C:Ch} {p:List Pk} {c:Nat}:∀t,Rch C p (run C p c t).s
 |0=> .z
 |t+1=>tk_rch c (run_rch t)
structure TkI (C:Ch) (p:List Pk) (c N t left bef:Nat) (S:St C.σ) (ms:List (List Int)):Prop where
 l:left≤4000
 b:Bf p S.bg bef
 m:Sn N (fun _=>t+2) (4000*(t+1)-left) ms
 q:Rq S
 i:InvT p t S
 k:tk C p t left S=run C p c (t+1)
 v:Rch C p S.s
theorem RunI.of {C:Ch} {p:List Pk} {c N T t bef:Nat} {ms:List (List Int)} {S:St C.σ} {B:Int} (hT:t<T) (e:run C p c (t+1)=S) (hB:Bf p S.bg bef) (hm:Sn N (fun _=>t+2) B ms) (hB2:B≤4000*(t+1)) (hq:Rq S):RunI C p c N T (t+1) bef ms:=
 ⟨hT,by rw [e];exact hB,hm.up (by omega),by rw [e];exact hq⟩
def RunV (n:Nat) (dn:Nat→Int) (r:SV):Prop:=∃ms:List (List Int),ms.length≤6∧r= .agg [.psl 1 (ivs n dn), .psl 1 ((mtz ms).map fun m=>[.psl 1 m])]
theorem Chof_ok (p:List Pk) (hp:PL p) (t left:Nat) (bg:Nat→Bool) (s:fifoC.σ) (bef:Nat) (hB:Bf p bg bef):
  Ctr Tryz.prog 248 [.ptr 0 0] [stB t left p bef, .vec 1 (bls p.length bg)] (fun r o=>∃b2,Bf p bg b2∧o=[stB t left p b2, .vec 1 (bls p.length bg)]∧r=i64 (oI (fifoC.ch p t left (wt p t bg) s).2)):=First_ok p hp t left bg bef hB
theorem Size_ok (p:List Pk) (hp:PL p) (t left:Int) (bg:Nat→Bool) (bef i:Nat) (hi:i<p.length):
  Ctr Tryz.prog 271 [.ptr 0 0,i64 i] [stB t left p bef, .vec 1 (bls p.length bg)] (fun r o=>o=[stB t left p bef, .vec 1 (bls p.length bg)]∧r=i64 (sz p i)):=by
 refine fI 2 Tryz.func271 ?_
 have hpl:=pks_len p
 have hgp:=pks_get hi
 obtain⟨z1,z2⟩:=hp.s i hi
 have hzI:((sz p i:Nat):Int)=(p.getD i pk0).s :=by unfold sz;omega
 rw [hzI]
 generalize p.getD i pk0=x at*
 (repeat' (conv=>whnf);first|refine⟨i,_,rfl,hgp,?_⟩|refine aC ?_ ?_<;>intro<;>try omega|refine z1_R1 ?_|fail);all_goals try (conv=>whnf)
 exact⟨rfl,rfl⟩
end
section
open Go.Sx
def md (x n:Int):Int:=if x.tmod n<0 then x.tmod n+n else x.tmod n
end
section
open Go.Sx Go.Np Go.Cv
theorem ints_app (a b:List Int):ints (a++b)=ints a++ints b:=by simp [ints]
theorem idx_no {r:List Int} {l:Int} (h:∀j<r.length,¬r.getD j 0=l):l∉r:=by
 intro hm
 obtain⟨j,hj,e⟩:=List.mem_iff_getElem.1 hm
 exact h j hj (by rw [List.getD_eq_getElem?_getD,List.getElem?_eq_getElem hj,Option.getD_some];exact e)
theorem z1_Ks {G H:Prop} (k:H) (h:H→G:=by first|exact fun r=>aS r|exact fun r=>aG r|exact fun r=>aD r|exact fun r=>aH r|exact fun r=>aP_R1 r|exact fun r=>aI r|exact fun r=>aJ r|exact fun r=>aW (.qs [0,1,2,3,4,5,6,7,8] .nil) r):G:=h k
theorem kInts_ok (a b:List Int) (ha:a.length≤9223372036854775807):Ctr Tryz.prog 16 [.psl 1 (ints a), .psl 1 (ints b)] [] (fun r o=>o=[]∧r= .bp (a=b)):=by
 refine Ctr.imp ?_
 refine fI 0 Tryz.func16 ?_
 have hla:=ints_len a
 have hlb:=ints_len b
 (repeat' (conv=>whnf);first|refine aC ?_ ?_<;>intro<;>try omega|refine z1_Ks ?_|fail);all_goals try (conv=>whnf)
 ·exact⟨rfl,Imp.bl ⟨fun h=>(by cases h),fun h=>by subst h;omega⟩⟩
 have hab:a.length=b.length:=by omega
 refine LoopOb.mk (Y:=Nat) (st:=fun i=>⟨[(13,i64 i),(12,i64 (ints a).length),(1, .psl 1 (ints b)),(0, .psl 1 (ints a))],[]⟩)
  (inv:=fun i=>i≤a.length∧∀j<i,a.getD j 0=b.getD j 0) (fun i=>a.length-i) 0 [] ⟨by omega,by omega⟩ (by(exact aL)) ?_
 rintro i ⟨hi,hv⟩
 (repeat' (conv=>whnf);first|refine z1_Ks ?_|fail);all_goals try (conv=>whnf)
 refine CondOb.mk (fun hlt=>?_) (fun hlt=>?_)
 ·have hst:a.getD i 0=b.getD i 0→∀j<i+1,a.getD j 0=b.getD j 0:=fun h j hj=>by
   by_cases e:j=i
   ·rw [e];exact h
   ·exact hv j (by omega)
  (repeat' (conv=>whnf);first|refine aC ?_ ?_<;>intro<;>try omega|refine z1_Ks ?_|fail);all_goals try (conv=>whnf)
  ·exact⟨rfl,Imp.bl ⟨fun h=>(by cases h),fun h=>by subst h;exact absurd rfl (by assumption)⟩⟩
  ·exact⟨i+1,[],⟨by omega,hst (by omega)⟩,by omega,by(exact aL)⟩
 ·(repeat' (conv=>whnf);first|refine aC ?_ ?_<;>intro _|refine z1_Ks ?_|fail);all_goals try (conv=>whnf)
  refine⟨rfl,Imp.bl ⟨fun _=>?_,fun _=>rfl⟩⟩
  apply List.ext_getElem hab
  intro j h1 h2
  have:=hv j (by omega)
  rw [List.getD_eq_getElem?_getD,List.getD_eq_getElem?_getD,List.getElem?_eq_getElem h1,List.getElem?_eq_getElem h2,Option.getD_some,Option.getD_some]at this
  exact this
def stv (b:Int) (p:Nat):List Int:=0::List.replicate p b
theorem stv_len (b:Int) (p:Nat):(stv b p).length =p+1:=by simp [stv]
theorem stv_succ (b:Int) (p:Nat):stv b (p+1)=stv b p++[b]:=by simp [stv,List.replicate_succ']
theorem Stair_ok (b:Int) (p:Nat) (q:Int) (hp:p≤1000):Ctr Tryz.prog 30 [i64 b,i64 p,i64 q] [] (fun r o=>o=[]∧r=crv (stv b p) p q):=by
 refine Ctr.imp ?_
 refine fI 0 Tryz.func30 ?_
 (repeat' (conv=>whnf);first|refine aC ?_ ?_<;>intro _|refine z1_R1 ?_|fail);all_goals try (conv=>whnf)
 refine LoopOb.mk (Y:=Nat) (st:=fun i=>⟨[(8,i64 i),(7, .ptr 2 0),(6, .ptr 0 0),(0,i64 b),(1,i64 p)],[.box [.nil,i64 0,i64 0], .vec 1 (ints (stv b i)), .box [.vec 1,i64 p,i64 q]]⟩)
  (inv:=fun i=>i≤p) (fun i=>p-i) 0 [0,1,2] (by omega) (by(exact aL)) ?_
 intro i hi
 have hl:=ints_len (stv b i)
 have hs:=stv_len b i
 (repeat' (conv=>whnf);first|refine z1_R1 ?_|fail);all_goals try (conv=>whnf)
 refine CondOb.mk (fun hlt=>?_) (fun hlt=>?_)
 ·(repeat' (conv=>whnf);first|refine aC ?_ ?_<;>intro _|refine z1_R1 ?_|fail);all_goals try (conv=>whnf)
  exact⟨i+1,[0,4,2],by omega,by omega,by rw [stv_succ,ints_app];(exact aL)⟩
 ·have e:i=p:=by omega
  subst e
  (repeat' (conv=>whnf);first|refine aC ?_ ?_<;>intro _|refine z2_J3 ?_|fail);all_goals try (conv=>whnf)
  refine .mk [.fz 1] ?_
  (repeat' (conv=>whnf);first|refine aC ?_ ?_<;>intro _|refine z1_R1 ?_|fail);all_goals try (conv=>whnf)
  exact⟨rfl,Imp.refl _⟩
end
end Go.Proofs.YtjhmjiimpmmnhaaGreat
