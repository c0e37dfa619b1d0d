/- Lemmas of this seat. Conditions: as stated. -/
import Derived.Test.YtaomhdljcdadaaaGreatNw
import Derived.Test.YtaomhdljcdadaaaGreatSxC
set_option linter.unusedVariables false
set_option linter.unusedSimpArgs false
set_option maxHeartbeats 2000000
set_option maxRecDepth 4000
namespace Go.Proofs.YtaomhdljcdadaaaGreat
open Go.Sx Go.Np Go.Cv
theorem aP_Kw {A B K:Prop} (k:K) (a:A:=by(simp only [zA,zT,zD,zC,zN,ints_len,zR,lnl,fll,stl];omega)) (b:B:=by(simp only [zA,zT,zD,zC,zN,ints_len,zR,lnl,fll,stl];omega)):(A∧B)∧K:=⟨⟨a,b⟩,k⟩
theorem z1_Kw {G H:Prop} (k:H) (h:H→G:=by first|exact fun r=>aS r|exact fun r=>aG r|exact fun r=>aD r|exact fun r=>aH r|exact fun r=>aP_Kw r|exact fun r=>aI r|exact fun r=>aJ r):G:=h k
theorem Text_ok (L:List Int) (k:Nat) (hL:L.length≤2000) (hk:k≤2000) (l:List ByteArray) (hl:1≤l.length) (hl2:l.length≤1000000):
  Ctr Tryz.prog 66 [.ptr 0 0, .psl 1 (strs l)] [src L k] (fun r o=>∃x:ByteArray×Nat,(x.1∈l∧x.2≤2000)∧o=[src L x.2]∧r= .str x.1):=by
 refine fI 1 Tryz.func66 ?_
 have hll:=stl l
 (repeat' (conv=>whnf);first|refine aC ?_ ?_<;>intro _|refine z1_Kw ?_|fail);all_goals try (conv=>whnf)
 refine aM [0] (N_ok L k hL hk (strs l).length (by omega) (by omega)) rfl rfl ?_
 rintro _ _ ⟨⟨v,k'⟩,⟨h1,h2,hk'⟩,rfl,rfl⟩
 dsimp only at h1 h2 hk'⊢
 (repeat' (conv=>whnf);first|refine aC ?_ ?_<;>intro _|refine z1_Kw ?_|fail);all_goals try (conv=>whnf)
 refine⟨v.toNat,_,by omega,stg (by omega),?_⟩
 (repeat' (conv=>whnf);first|refine aC ?_ ?_<;>intro _|refine z1_Kw ?_|fail);all_goals try (conv=>whnf)
 exact⟨(l.getD v.toNat bs0,k'),⟨getD_in (by omega),hk'⟩,rfl,rfl⟩
abbrev C4:=List Int×Int×Int
abbrev crs (l:List C4):List (List SV):=l.map fun c=>[.psl 1 (ints c.1),i64 c.2.1,i64 c.2.2]
theorem crl (l:List C4):(crs l).length =l.length:=by simp [crs]
theorem crg {l:List C4} {i:Nat} (h:i<l.length):(crs l)[i]? =some [.psl 1 (ints (l.getD i ([],0,0)).1),i64 (l.getD i ([],0,0)).2.1,i64 (l.getD i ([],0,0)).2.2]:=by simp [crs,h]
theorem Text2_ok (L:List Int) (k:Nat) (hL:L.length≤2000) (hk:k≤2000) (l:List C4) (hl:1≤l.length) (hl2:l.length≤1000000):
  Ctr Tryz.prog 68 [.ptr 0 0, .psl 3 (crs l)] [src L k] (fun r o=>∃x:C4×Nat,(x.1∈l∧x.2≤2000)∧o=[src L x.2]∧r=crv x.1.1 x.1.2.1 x.1.2.2):=by
 refine fI 1 Tryz.func68 ?_
 have hll:=crl l
 (repeat' (conv=>whnf);first|refine aC ?_ ?_<;>intro _|refine z1_Kw ?_|fail);all_goals try (conv=>whnf)
 refine aM [0] (N_ok L k hL hk (crs l).length (by omega) (by omega)) rfl rfl ?_
 rintro _ _ ⟨⟨v,k'⟩,⟨h1,h2,hk'⟩,rfl,rfl⟩
 dsimp only at h1 h2 hk'⊢
 (repeat' (conv=>whnf);first|refine aC ?_ ?_<;>intro _|refine z1_Kw ?_|fail);all_goals try (conv=>whnf)
 refine⟨v.toNat,_,by omega,crg (by omega),?_⟩
 (repeat' (conv=>whnf);first|refine aC ?_ ?_<;>intro _|refine z1_Kw ?_|fail);all_goals try (conv=>whnf)
 exact⟨(l.getD v.toNat ([],0,0),k'),⟨getD_in (by omega),hk'⟩,rfl,rfl⟩
theorem strs_set {l:List ByteArray} {i:Nat} {s:ByteArray}:(strs l).set i [.str s]=strs (l.set i s):=by simp [strs,List.map_set]
theorem lns_set {l:List Ln} {i:Nat} {f:Ln}:(lns l).set i (lnv f)=lns (l.set i f):=by simp [lns,List.map_set]
theorem fls_set' {l:List Fl} {i:Nat} {f:Fl}:(fls l).set i (flv f)=fls (l.set i f):=by simp [fls,List.map_set]
structure ShN (n:Nt):Prop where
 nl:NL n
 nb:n.nm.length≤100
 lb:n.ln.length≤100
 fb:n.fl.length≤100
theorem ShN.setn {n:Nt} (h:ShN n) (i:Nat) {s:ByteArray} (hs:s.size≤100):ShN ⟨n.nm.set i s,n.ln,n.fl⟩:=by
 have h1:=h.nb
 have h2:=h.nl
 refine⟨⟨by dsimp only;rw [List.length_set];omega,h2.ln,h2.fl,fun x hx=>?_,h2.lw,h2.fs⟩,by dsimp only;rw [List.length_set];omega,h.lb,h.fb⟩
 rcases List.mem_or_eq_of_mem_set hx with hx|rfl
 ·exact h2.ns x hx
 ·omega
theorem ShN.appn {n:Nt} (h:ShN n) (h1:n.nm.length≤10) {s:ByteArray} (hs:s.size≤100):ShN ⟨n.nm++[s],n.ln,n.fl⟩:=by
 have h2:=h.nl
 refine⟨⟨by simp only [List.length_append,List.length_singleton];omega,h2.ln,h2.fl,fun x hx=>?_,h2.lw,h2.fs⟩,by simp only [List.length_append,List.length_singleton];omega,h.lb,h.fb⟩
 rcases List.mem_append.1 hx with hx|hx
 ·exact h2.ns x hx
 ·rw [List.mem_singleton.1 hx];omega
theorem ShN.setl {n:Nt} (h:ShN n) {i:Nat} (hi:i<n.ln.length) (a b c:Int):ShN ⟨n.nm,n.ln.set i ⟨a,b,c,(n.ln.getD i ln0).w,(n.ln.getD i ln0).s⟩,n.fl⟩:=by
 have h1:=h.lb
 have h2:=h.nl
 refine⟨⟨h2.nm,by dsimp only;rw [List.length_set];omega,h2.fl,h2.ns,fun x hx=>?_,h2.fs⟩,h.nb,by dsimp only;rw [List.length_set];omega,h.fb⟩
 rcases List.mem_or_eq_of_mem_set hx with hx|rfl
 ·exact h2.lw x hx
 ·exact h2.lw (n.ln.getD i ln0) (getD_in hi)
theorem ShN.setf {n:Nt} (h:ShN n) (i:Nat) {f:Fl} (hf:f.nm.size≤1000∧f.rt.length≤1000∧f.v.length≤1000):ShN ⟨n.nm,n.ln,n.fl.set i f⟩:=by
 have h1:=h.fb
 have h2:=h.nl
 refine⟨⟨h2.nm,h2.ln,by dsimp only;rw [List.length_set];omega,h2.ns,h2.lw,fun x hx=>?_⟩,h.nb,h.lb,by dsimp only;rw [List.length_set];omega⟩
 rcases List.mem_or_eq_of_mem_set hx with hx|rfl
 ·exact h2.fs x hx
 ·omega
theorem NetG.sh {ml mf k:Nat} {n:Nt} (h:NetG ml mf k n):ShN n:=by
 have g:=h.g
 have h1:=g.nl
 have h2:=g.ll
 have h3:=g.fl
 exact⟨h.nl,by omega,by omega,by omega⟩
theorem NetG.fsz {ml mf k:Nat} {n:Nt} (h:NetG ml mf k n):∀i,i<n.fl.length→(n.fl.getD i fl0).nm.size ≤1∧(n.fl.getD i fl0).rt.length ≤3∧(n.fl.getD i fl0).v.length ≤13∧1≤(n.fl.getD i fl0).v.length ∧∀j<(n.fl.getD i fl0).v.length,-4611686018427387904≤(n.fl.getD i fl0).v.getD j 0∧(n.fl.getD i fl0).v.getD j 0≤4611686018427387904:=by
 intro i hi
 have g:=h.g
 have hn:=g.fn i hi
 have hF:=g.fg _ (getD_in (d:=fl0) hi)
 have hV:=hF.valid.1
 obtain⟨b,_,_,p1,p2,hv,_⟩:=hF.ct
 refine⟨by rw [hn];simp [fname,ByteArray.size],hF.r1.2,by rw [hv,List.length_cons,List.length_replicate];omega,hV.1,fun j hj=>?_⟩
 have:=hV.2.2.2.2.2.2.2.1 j hj
 omega
theorem z4_Kw {G H:Prop} (k:H) (h:H→G:=by first|exact fun r=>aS r|exact fun r=>aG r|exact fun r=>aD r|exact fun r=>aP_Kw r|exact fun r=>aI r|exact fun r=>aJ r):G:=h k
theorem z3_Kw {G H:Prop} (k:H) (h:H→G:=by first|exact fun r=>aS r|exact fun r=>aG r|exact fun r=>aD r|exact fun r=>aH r|exact fun r=>aP_Kw r|exact fun r=>aI r|exact fun r=>aJ r|exact fun r=>aW (.qs [0,1,2,3] (.l 4 [1] (.l 5 [1] (.qs [6] (.l 7 [] .nil .no)) .no) .no)) r|exact fun r=>aW (.qs [0,1,2,3] (.l 4 [1] (.l 5 [1] (.qs [6,7] (.l 8 [] .nil .no)) .no) .no)) r|exact fun r=>aW (.qs [0,1,2,3] (.l 4 [1] (.qs [5,6] (.l 7 [] .nil .no)) .no)) r|exact fun r=>aW (.qs [0,1,2,3] (.l 4 [1] (.l 5 [1] (.qs [6,7] (.l 8 [] .nil .no)) .no) .no)) r|exact fun r=>aW (.qs [0,1,2,3,4,5] (.l 6 [1] (.qs [7,8] .nil) .no)) r|exact fun r=>aW (.qs [0,1,2,3,4,6,7,8,9] (.l 5 [8] (.l 10 [] (.l 11 [] (.l 12 [] (.qs [13,14] (.l 15 [] .nil .no)) .no) .no) .no) .no)) r):G:=h k
theorem z2_Kw {G H:Prop} (k:H) (h:H→G:=by first|exact fun r=>aS r|exact fun r=>aG r|exact fun r=>aH r|exact fun r=>aP_Kw r|exact fun r=>aI r|exact fun r=>aJ r|exact fun r=>aW (.qs [0,1,2,3] (.l 4 [1] (.l 5 [1] (.qs [6] (.l 7 [] .nil .no)) .no) .no)) r|exact fun r=>aW (.qs [0,1,2,3] (.l 4 [1] (.l 5 [1] (.qs [6,7] (.l 8 [] .nil .no)) .no) .no)) r|exact fun r=>aW (.qs [0,1,2,3] (.l 4 [1] (.qs [5,6] (.l 7 [] .nil .no)) .no)) r|exact fun r=>aW (.qs [0,1,2,3] (.l 4 [1] (.l 5 [1] (.qs [6,7] (.l 8 [] .nil .no)) .no) .no)) r|exact fun r=>aW (.qs [0,1,2,3,4,5] (.l 6 [1] (.qs [7,8] .nil) .no)) r|exact fun r=>aW (.qs [0,1,2,3,4,6,7,8,9] (.l 5 [8] (.l 10 [] (.l 11 [] (.l 12 [] (.qs [13,14] (.l 15 [] .nil .no)) .no) .no) .no) .no)) r):G:=h k
theorem BentNet_ok (L:List Int) (k:Nat) (hL:L.length≤2000) (hk:k≤2000) (ml mf kk:Nat) (n:Nt) (hG:NetG ml mf kk n):
  Ctr Tryz.prog 25 [.ptr 0 0,ntv n] [src L k] (fun r o=>∃x:Nt×Nat,(ShN x.1∧x.2≤2000)∧o=[src L x.2]∧r=ntv x.1):=by
 refine Ctr.impE ?_
 refine fI 1 Tryz.func25 ?_
 have hln:=lnl n.ln
 have hlf:=fll n.fl
 have hls:=stl n.nm
 have hsh:=hG.sh
 have g:=hG.g
 have g1:=g.nl
 have g2:=g.ll
 have g3:=g.fl
 (repeat' (conv=>whnf);first|refine aC ?_ ?_<;>intro<;>try omega|refine z2_Kw ?_|fail);all_goals try (conv=>whnf)
 refine CutOb.cut (Y:=Nat) (st:=fun y=>⟨[(4, .ptr 2 0),(3, .ptr 1 0),(0, .ptr 0 0)],[src L y, .box [.vec 3, .vec 4, .vec 5], .box [.nil, .nil, .nil], .vec 1 (strs n.nm), .vec 5 (lns n.ln), .vec 8 (fls n.fl)]⟩) (inv:=fun y=>y≤2000∧1≤n.fl.length) ?_ ?_
 ·have hsz:∀s∈[(⟨#[]⟩:ByteArray),⟨#[65]⟩,⟨#[97]⟩,⟨#[49,97]⟩,⟨#[97,45,49]⟩,⟨#[97,98,99,100,101,102,103,104,105,106,107,108,109]⟩],s.size≤100:=by decide+kernel
  (repeat' (conv=>whnf);first|(refine Gh.mk [.fa] ?_;(conv=>whnf);first|exact⟨(⟨n.nm.set i.toNat sx,n.ln,n.fl⟩,k4),⟨hsh.setn _ (hsz _ sx1),hk4⟩,rfl,by dsimp only [ntv];rw [←strs_set];exact Imp.refl _⟩|exact⟨(⟨n.nm++[⟨#[122,122]⟩],n.ln,n.fl⟩,k3),⟨hsh.appn (by omega) (by decide),hk3⟩,rfl,by dsimp only [ntv];rw [strs_app];exact Imp.refl _⟩|exact⟨(⟨n.nm,n.ln.set i.toNat ⟨(n.ln.getD i.toNat ln0).k,nx,(n.ln.getD i.toNat ln0).n,(n.ln.getD i.toNat ln0).w,(n.ln.getD i.toNat ln0).s⟩,n.fl⟩,k4),⟨hsh.setl (by omega) _ _ _,hk4⟩,rfl,by dsimp only [ntv];rw [←lns_set];exact Imp.refl _⟩|exact⟨(⟨n.nm,n.ln.set i.toNat ⟨nx,(n.ln.getD i.toNat ln0).c,(n.ln.getD i.toNat ln0).n,(n.ln.getD i.toNat ln0).w,(n.ln.getD i.toNat ln0).s⟩,n.fl⟩,k4),⟨hsh.setl (by omega) _ _ _,hk4⟩,rfl,by dsimp only [ntv];rw [←lns_set];exact Imp.refl _⟩|exact⟨(⟨n.nm,n.ln.set i.toNat ⟨(n.ln.getD i.toNat ln0).k,(n.ln.getD i.toNat ln0).c,nx,(n.ln.getD i.toNat ln0).w,(n.ln.getD i.toNat ln0).s⟩,n.fl⟩,k4),⟨hsh.setl (by omega) _ _ _,hk4⟩,rfl,by dsimp only [ntv];rw [←lns_set];exact Imp.refl _⟩)|refine LitOb.ful ?_|refine aC ?_ ?_<;>intro<;>try omega|refine z3_Kw ?_|(refine aM [0] (N_ok _ _ hL (by assumption) 4 (by omega) (by omega)) rfl rfl ?_;rintro _ _ ⟨⟨c9,k1⟩,⟨n1,n2,hk1⟩,rfl,rfl⟩;dsimp only at n1 n2 hk1⊢)|(refine aM [0] (N_ok _ _ hL (by assumption) (lns n.ln).length (by omega) (by omega)) rfl rfl ?_;rintro _ _ ⟨⟨i,k2⟩,⟨i1,i2,hk2⟩,rfl,rfl⟩;dsimp only at i1 i2 hk2⊢)|(refine aM [0] (N_ok _ _ hL (by assumption) 5 (by omega) (by omega)) rfl rfl ?_;rintro _ _ ⟨⟨c9,k3⟩,⟨n1,n2,hk3⟩,rfl,rfl⟩;dsimp only at n1 n2 hk3⊢)|refine And.intro rfl ?_|(refine CallOb.mk [0] (Text_ok _ _ hL (by assumption) [(⟨#[]⟩:ByteArray),⟨#[65]⟩,⟨#[97]⟩,⟨#[49,97]⟩,⟨#[97,45,49]⟩,⟨#[97,98,99,100,101,102,103,104,105,106,107,108,109]⟩] (by decide) (by decide)) rfl ⟨Imp.refl _,Imp.fulp rfl,trivial⟩ rfl rfl ?_;rintro _ _ ⟨⟨sx,k4⟩,⟨sx1,hk4⟩,rfl,rfl⟩;dsimp only at sx1 hk4⊢)|(refine CallOb.mk [0] (Pick_ok _ _ hL (by assumption) [0,1,4000,4001] (by decide) (by decide)) rfl ⟨Imp.refl _,Imp.fulp rfl,trivial⟩ rfl rfl ?_;rintro _ _ ⟨⟨nx,k4⟩,⟨nx1,hk4⟩,rfl,rfl⟩;dsimp only at nx1 hk4⊢)|(refine CallOb.mk [0] (Pick_ok _ _ hL (by assumption) [0,1,2,6,7] (by decide) (by decide)) rfl ⟨Imp.refl _,Imp.fulp rfl,trivial⟩ rfl rfl ?_;rintro _ _ ⟨⟨nx,k4⟩,⟨nx1,hk4⟩,rfl,rfl⟩;dsimp only at nx1 hk4⊢)|(refine aM [0] (Range_ok _ _ hL (by assumption) 0 6 (by omega) (by omega) (by omega)) rfl rfl ?_;rintro _ _ ⟨⟨nx,k4⟩,⟨nx1,nx2,hk4⟩,rfl,rfl⟩;dsimp only at nx1 nx2 hk4⊢)|refine⟨i.toNat,by omega,by omega,?_⟩|refine⟨_,stg (by omega),?_⟩|refine⟨_,lng (by omega),?_⟩|fail);all_goals try (conv=>whnf)
  all_goals first
   |exact⟨_,[0,1,2,3,4,5],⟨by assumption,by omega⟩,by(exact aL)⟩
   |trace_state
 clear hk k
 rintro k ⟨hk,hf1⟩
 conv=>whnf
 refine DrawOb.mk [] (.qs [0,1,2,3,4,5] (.l 6 [1] (.qs [7,8] .nil) .no)) (by decide+kernel) ?_
 (repeat' (conv=>whnf);first|refine aC ?_ ?_<;>intro<;>try omega|refine z4_Kw ?_|fail);all_goals try (conv=>whnf)
 refine .mk [] ?_
 (repeat' (conv=>whnf);first|refine aC ?_ ?_<;>intro<;>try omega|refine z4_Kw ?_|fail);all_goals try (conv=>whnf)
 refine aM [0] (N_ok _ _ hL (by assumption) (fls n.fl).length (by omega) (by omega)) rfl rfl ?_
 rintro _ _ ⟨⟨v,k1⟩,⟨n1,n2,hk1⟩,rfl,rfl⟩
 dsimp only at n1 n2 hk1⊢
 (repeat' (conv=>whnf);first|refine aC ?_ ?_<;>intro<;>try omega|refine z4_Kw ?_|fail);all_goals try (conv=>whnf)
 refine⟨v.toNat,by omega,by omega,?_⟩
 have hil:v.toNat<n.fl.length:=by omega
 generalize v.toNat=i at*
 have hgt:=flg hil
 obtain⟨z1,z2,z3,z4,z5⟩:=hG.fsz i hil
 generalize n.fl.getD i fl0=f at*
 have hrl:=ints_len f.rt
 have hS:=fun g' h=>hsh.setf i (f:=g') h
 have hst:=fun g'=>fls_set' (l:=n.fl) (i:=i) (f:=g')
 have cB:=Bent_ok L _ hL hk1 f.v f.p f.q z4 (by omega) z5
 (repeat' (conv=>whnf);first|refine aC ?_ ?_<;>intro<;>try omega|refine z4_Kw ?_|fail);all_goals try (conv=>whnf)
 refine .mk [.op 5 i] ⟨_,hgt,?_⟩
 have hsz:∀s∈[(⟨#[]⟩:ByteArray),⟨#[102]⟩,⟨#[70]⟩,⟨#[120,32,121]⟩,⟨#[102,45,50]⟩],s.size≤100:=by decide+kernel
 have hcz:∀c∈[(([],0,0):C4),([1],1,0),([0,4611686018427387904],1,0),([0],1,0)],c.1.length≤100:=by decide+kernel
 (repeat' (conv=>whnf);first|(refine Gh.mk [.fa, .cl 5, .fz 5] ?_;(conv=>whnf);first|exact⟨(⟨n.nm,n.ln,n.fl.set i ⟨sx,f.rt,f.cl,f.lo,f.hi,f.v,f.p,f.q⟩⟩,k4),⟨hS _ ⟨by have:=hsz _ sx1;dsimp only;omega,by dsimp only;omega,by dsimp only;omega⟩,by assumption⟩,rfl,by dsimp only [ntv];rw [←hst];exact Imp.agg ⟨Imp.refl _,Imp.refl _,Imp.pslr (ImpR.set ⟨Imp.refl _,Imp.refl _,Imp.refl _,Imp.refl _,Imp.refl _,Imp.refl _,Imp.refl _,Imp.refl _,trivial⟩),trivial⟩⟩|exact⟨(⟨n.nm,n.ln,n.fl.set i ⟨f.nm,f.rt++[nx],f.cl,f.lo,f.hi,f.v,f.p,f.q⟩⟩,k4),⟨hS _ ⟨by dsimp only;omega,by simp only [List.length_append,List.length_singleton];omega,by dsimp only;omega⟩,by assumption⟩,rfl,by dsimp only [ntv];rw [←hst];exact Imp.agg ⟨Imp.refl _,Imp.refl _,Imp.pslr (ImpR.set ⟨Imp.refl _,Imp.psl (by simp [ints]),Imp.refl _,Imp.refl _,Imp.refl _,Imp.refl _,Imp.refl _,Imp.refl _,trivial⟩),trivial⟩⟩|exact⟨(⟨n.nm,n.ln,n.fl.set i ⟨f.nm,[],f.cl,f.lo,f.hi,f.v,f.p,f.q⟩⟩,k3),⟨hS _ ⟨by dsimp only;omega,by simp,by dsimp only;omega⟩,by assumption⟩,rfl,by dsimp only [ntv];rw [←hst];exact Imp.agg ⟨Imp.refl _,Imp.refl _,Imp.pslr (ImpR.set ⟨Imp.refl _,Imp.nil _,Imp.refl _,Imp.refl _,Imp.refl _,Imp.refl _,Imp.refl _,Imp.refl _,trivial⟩),trivial⟩⟩|exact⟨(⟨n.nm,n.ln,n.fl.set i ⟨f.nm,f.rt,nx,f.lo,f.hi,f.v,f.p,f.q⟩⟩,k4),⟨hS _ ⟨by dsimp only;omega,by dsimp only;omega,by dsimp only;omega⟩,by assumption⟩,rfl,by dsimp only [ntv];rw [←hst];exact Imp.agg ⟨Imp.refl _,Imp.refl _,Imp.pslr (ImpR.set ⟨Imp.refl _,Imp.refl _,Imp.refl _,Imp.refl _,Imp.refl _,Imp.refl _,Imp.refl _,Imp.refl _,trivial⟩),trivial⟩⟩|exact⟨(⟨n.nm,n.ln,n.fl.set i ⟨f.nm,f.rt,f.cl,nx,f.hi,f.v,f.p,f.q⟩⟩,k4),⟨hS _ ⟨by dsimp only;omega,by dsimp only;omega,by dsimp only;omega⟩,by assumption⟩,rfl,by dsimp only [ntv];rw [←hst];exact Imp.agg ⟨Imp.refl _,Imp.refl _,Imp.pslr (ImpR.set ⟨Imp.refl _,Imp.refl _,Imp.refl _,Imp.refl _,Imp.refl _,Imp.refl _,Imp.refl _,Imp.refl _,trivial⟩),trivial⟩⟩|exact⟨(⟨n.nm,n.ln,n.fl.set i ⟨f.nm,f.rt,f.cl,f.lo,nx,f.v,f.p,f.q⟩⟩,k4),⟨hS _ ⟨by dsimp only;omega,by dsimp only;omega,by dsimp only;omega⟩,by assumption⟩,rfl,by dsimp only [ntv];rw [←hst];exact Imp.agg ⟨Imp.refl _,Imp.refl _,Imp.pslr (ImpR.set ⟨Imp.refl _,Imp.refl _,Imp.refl _,Imp.refl _,Imp.refl _,Imp.refl _,Imp.refl _,Imp.refl _,trivial⟩),trivial⟩⟩|exact⟨(⟨n.nm,n.ln,n.fl.set i ⟨f.nm,f.rt,f.cl,f.lo,f.hi,cx1,cx2,cx3⟩⟩,k4),⟨hS _ ⟨by dsimp only;omega,by dsimp only;omega,by dsimp only;omega⟩,by assumption⟩,rfl,by dsimp only [ntv];rw [←hst];exact Imp.agg ⟨Imp.refl _,Imp.refl _,Imp.pslr (ImpR.set ⟨Imp.refl _,Imp.refl _,Imp.refl _,Imp.refl _,Imp.refl _,Imp.refl _,Imp.refl _,Imp.refl _,trivial⟩),trivial⟩⟩|exact⟨(⟨n.nm,n.ln,n.fl.set i ⟨f.nm,f.rt,f.cl,f.lo,f.hi,cx1,cx2,cx3⟩⟩,k4),⟨hS _ ⟨by dsimp only;omega,by dsimp only;omega,by have:=hcz _ cx;dsimp only at this⊢;omega⟩,by assumption⟩,rfl,by dsimp only [ntv];rw [←hst];exact Imp.agg ⟨Imp.refl _,Imp.refl _,Imp.pslr (ImpR.set ⟨Imp.refl _,Imp.refl _,Imp.refl _,Imp.refl _,Imp.refl _,Imp.refl _,Imp.refl _,Imp.refl _,trivial⟩),trivial⟩⟩)|refine LitOb.ful ?_|refine aC ?_ ?_<;>intro<;>try omega|refine z1_Kw ?_|refine DrawOb.mk [] (.qs [0,1,2,3,4,6,7,8,9] (.l 5 [8] (.l 10 [] (.l 11 [] (.l 12 [] (.qs [13,14] (.l 15 [] .nil .no)) .no) .no) .no) .no)) (by decide+kernel) ?_|(refine aM [0] (N_ok _ _ hL (by assumption) 8 (by omega) (by omega)) rfl rfl ?_;rintro _ _ ⟨⟨c9,k3⟩,⟨n1,n2,hk3⟩,rfl,rfl⟩;dsimp only at n1 n2 hk3⊢)|refine And.intro rfl ?_|(refine CallOb.mk [0] (Text_ok _ _ hL (by assumption) [(⟨#[]⟩:ByteArray),⟨#[102]⟩,⟨#[70]⟩,⟨#[120,32,121]⟩,⟨#[102,45,50]⟩] (by decide) (by decide)) rfl ⟨Imp.refl _,Imp.fulp rfl,trivial⟩ rfl rfl ?_;rintro _ _ ⟨⟨sx,k4⟩,⟨sx1,hk4⟩,rfl,rfl⟩;dsimp only at sx1 hk4⊢)|(refine CallOb.mk [0] (Pick_ok _ _ hL (by assumption) [0,1,9,1501] (by decide) (by decide)) rfl ⟨Imp.refl _,Imp.fulp rfl,trivial⟩ rfl rfl ?_;rintro _ _ ⟨⟨nx,k4⟩,⟨nx1,hk4⟩,rfl,rfl⟩;dsimp only at nx1 hk4⊢)|(refine CallOb.mk [0] (Pick_ok _ _ hL (by assumption) [0,1,1500,1501] (by decide) (by decide)) rfl ⟨Imp.refl _,Imp.fulp rfl,trivial⟩ rfl rfl ?_;rintro _ _ ⟨⟨nx,k4⟩,⟨nx1,hk4⟩,rfl,rfl⟩;dsimp only at nx1 hk4⊢)|(refine aM [0] (Range_ok _ _ hL (by assumption) (-1) 2 (by omega) (by omega) (by omega)) rfl rfl ?_;rintro _ _ ⟨⟨nx,k4⟩,⟨nx1,nx2,hk4⟩,rfl,rfl⟩;dsimp only at nx1 nx2 hk4⊢)|(refine aM [0] (Range_ok _ _ hL (by assumption) (-1) (lns n.ln).length (by omega) (by omega) (by omega)) rfl rfl ?_;rintro _ _ ⟨⟨nx,k4⟩,⟨nx1,nx2,hk4⟩,rfl,rfl⟩;dsimp only at nx1 nx2 hk4⊢)|(refine CallOb.mk [0] (Text2_ok _ _ hL (by assumption) [([],0,0),([1],1,0),([0,4611686018427387904],1,0),([0],1,0)] (by decide) (by decide)) rfl ⟨Imp.refl _,Imp.fulr (by repeat' (first|exact True.intro|refine And.intro ?_ ?_|exact Imp.nil _|exact Imp.fulp rfl|exact Imp.refl _)),trivial⟩ rfl rfl ?_;rintro _ _ ⟨⟨⟨cx1,cx2,cx3⟩,k4⟩,⟨cx,hk4⟩,rfl,rfl⟩;dsimp only at cx hk4⊢)|(refine aM [0] (Bent_ok _ _ hL (by assumption) f.v f.p f.q z4 (by omega) z5) rfl rfl ?_;rintro _ _ ⟨⟨⟨cx1,cx2,cx3⟩,k4⟩,⟨cx,hk4⟩,rfl,rfl⟩;dsimp only at cx hk4⊢)|fail);all_goals try (conv=>whnf)
 all_goals trace_state
end Go.Proofs.YtaomhdljcdadaaaGreat
