/- Lemmas of this seat. Conditions: as stated. -/
import Derived.Test.YtbcjojomkibgeaaGreatN14
import Derived.Test.YtbcjojomkibgeaaGreatY4
import Derived.Test.YtbcjojomkibgeaaGreatS7
set_option linter.unusedVariables false
set_option linter.unusedSimpArgs false
set_option maxHeartbeats 2000000
set_option maxRecDepth 4000
namespace Go.Proofs.YtbcjojomkibgeaaGreat
section
open Go.Sx Go.Np Go.Cv
structure LnG (k:Nat) (l:Ln):Prop where
 p:PortG k l
 w:l.w.length≤2
 s:l.s.length≤4
structure NetG (ml mf k:Nat) (n:Nt):Prop where
 g:NtG k n
 ml:n.ln.length≤ml
 mf:n.fl.length≤mf
 lg:∀l∈n.ln,LnG k l
theorem z2_N15 {G H:Prop} (k:H) (h:H→G:=by first|exact fun r=>aS r|exact fun r=>aG r|exact fun r=>aD r|exact fun r=>aP_Ks r|exact fun r=>aI r|exact fun r=>aJ r|exact fun r=>aW (.qs [0,1,3,4,5,6] (.l 2 [4,1] (.qs [7,8] (.l 9 [1] (.l 10 [] (.qs [11] (.l 12 [] .nil .no)) .no) .no)) .no)) r|exact fun r=>aW (.qs [0,1,2,3] (.l 4 [1] (.l 5 [1] (.l 6 [] (.qs [7] (.l 8 [] .nil .no)) .no) .no) .no)) r|exact fun r=>aW (.qs [0,1,2,3,5,6,7,8,11] (.l 4 [6,3,1] (.qs [9,10] (.l 12 [1] (.l 13 [1] (.l 14 [] (.qs [15] (.l 16 [] .nil .no)) .no) .no) .no)) .no)) r):G:=h k
theorem z1_N15 {G H:Prop} (k:H) (h:H→G:=by first|exact fun r=>aS r|exact fun r=>aG r|exact fun r=>aD r|exact fun r=>aH r|exact fun r=>aP_Ks r|exact fun r=>aI r|exact fun r=>aJ r|exact fun r=>aW (.qs [0,1,3,4,5,6] (.l 2 [4,1] (.qs [7,8] (.l 9 [1] (.l 10 [] (.qs [11] (.l 12 [] .nil .no)) .no) .no)) .no)) r|exact fun r=>aW (.qs [0,1,2,3] (.l 4 [1] (.l 5 [1] (.l 6 [] (.qs [7] (.l 8 [] .nil .no)) .no) .no) .no)) r|exact fun r=>aW (.qs [0,1,2,3,5,6,7,8,11] (.l 4 [6,3,1] (.qs [9,10] (.l 12 [1] (.l 13 [1] (.l 14 [] (.qs [15] (.l 16 [] .nil .no)) .no) .no) .no)) .no)) r):G:=h k
theorem Net_ok (L:List Int) (p:Nat) (hL:L.length≤2000) (hp:p≤2000) (ml mf:Nat) (hml:1≤ml∧ml≤4) (hmf:mf≤5):
  Ctr Tryz.prog 8 [.ptr 0 0,i64 ml,i64 mf] [src L p] (fun r o=>∃x:Nt×Nat×Nat,(NetG ml mf x.2.1 x.1∧x.2.2≤2000)∧o=[src L x.2.2]∧r=ntv x.1):=by
 refine Ctr.impE ?_
 refine fI 1 Tryz.func8 ?_
 (repeat' (conv=>whnf);first|refine aC ?_ ?_<;>intro<;>try omega|refine z1_N15 ?_|fail);all_goals try (conv=>whnf)
 refine aM [0] (Range_ok L p hL hp 1 2 (by omega) (by omega) (by omega)) rfl rfl ?_
 rintro _ _ ⟨⟨k,p1⟩,⟨k1,k2,hp1⟩,rfl,rfl⟩
 dsimp only at k1 k2 hp1⊢
 obtain⟨k,rfl⟩:∃n:Nat,k=n:=⟨k.toNat,by omega⟩
 (repeat' (conv=>whnf);first|refine aC ?_ ?_<;>intro<;>try omega|refine z1_N15 ?_|fail);all_goals try (conv=>whnf)
 refine aM [0] (Range_ok L p1 hL hp1 1 ml (by omega) (by omega) (by omega)) rfl rfl ?_
 rintro _ _ ⟨⟨v,p2⟩,⟨v1,v2,hp2⟩,rfl,rfl⟩
 dsimp only at v1 v2 hp2⊢
 obtain⟨v,rfl⟩:∃n:Nat,v=n:=⟨v.toNat,by omega⟩
 (repeat' (conv=>whnf);first|refine aC ?_ ?_<;>intro<;>try omega|refine z2_N15 ?_|fail);all_goals try (conv=>whnf)
 refine .mk [.nb 2 0 1, .nb 2 1 5, .nb 2 2 8] ?_
 refine LoopOb.mk (Y:=List Ln×Nat) (st:=fun y=>⟨[(9,i64 ((v:Int)-y.1.length)),(8,i64 k),(7, .ptr 2 0),(6, .ptr 1 0),(0, .ptr 0 0),(2,i64 mf)],[src L y.2, .box [.nil, .nil, .nil], .box [.vec 3, .vec 4, .vec 5], .vec 1 (strs (nms y.1.length)), .vec 5 (lns y.1), .vec 8 []]⟩)
  (inv:=fun y=>y.1.length≤v∧(∀l∈y.1,LnG k l)∧y.2≤2000) (fun y=>v-y.1.length) ([],p2) [0,1,2,3,4,5] ⟨by simp,by simp,hp2⟩ (by(exact aL)) ?_
 rintro⟨ls,p3⟩ ⟨hl,hg,hp3⟩
 dsimp only at hl hg hp3⊢
 have hsl:=stl (nms ls.length)
 have hnl:=nms_len (t:=ls.length)
 have hll:=lnl ls
 (repeat' (conv=>whnf);first|refine z1_N15 ?_|fail);all_goals try (conv=>whnf)
 refine CondOb.mk (fun hlt=>?_) (fun hlt=>?_)
 ·have hlit:([[.str ⟨#[97]⟩],[.str ⟨#[98]⟩],[.str ⟨#[99]⟩],[.str ⟨#[100]⟩]]:List (List SV))[ls.length]? =some [.str (lname ls.length)]:=by
   rcases(show ls.length=0∨ls.length=1∨ls.length=2∨ls.length=3 by omega)with h|h|h|h<;>rw [h]<;>rfl
  have hmod:((strs (nms ls.length)).length :Int).tmod 4=ls.length:=by
   rw [hsl,hnl];exact Int.tmod_eq_of_lt (by omega) (by omega)
  (repeat' (conv=>whnf);first|refine LitOb.ful ?_|refine aC ?_ ?_<;>intro<;>try omega|refine z1_N15 ?_|refine⟨by decide,?_⟩|refine⟨ls.length,_,hmod,hlit,?_⟩|(refine aM [0] (Port_ok L p3 hL hp3 k (by omega)) rfl rfl ?_;rintro _ _ ⟨⟨l,p4⟩,⟨hP,hw,hs,hp4⟩,rfl,rfl⟩;dsimp only at hP hw hs hp4⊢)|fail);all_goals try (conv=>whnf)
  exact⟨(ls++[l],p4),[0,1,2,6,7,5],⟨by simp only [List.length_append,List.length_singleton];omega,all_app hg ⟨hP,hw,hs⟩,hp4⟩,by simp only [List.length_append,List.length_singleton];omega,by dsimp only;rw [List.length_append,List.length_singleton,nms_succ,strs_app,lns_app];(exact aL)⟩
 have hv:v=ls.length:=by omega
 subst hv
 (repeat' (conv=>whnf);first|refine aC ?_ ?_<;>intro<;>try omega|refine z2_N15 ?_|fail);all_goals try (conv=>whnf)
 refine .mk [.fz 3, .fz 4] ?_
 (repeat' (conv=>whnf);first|refine aC ?_ ?_<;>intro<;>try omega|refine z2_N15 ?_|fail);all_goals try (conv=>whnf)
 refine aM [0] (Range_ok L p3 hL hp3 0 mf (by omega) (by omega) (by omega)) rfl rfl ?_
 rintro _ _ ⟨⟨v',p4⟩,⟨w1,w2,hp4⟩,rfl,rfl⟩
 dsimp only at w1 w2 hp4⊢
 obtain⟨v',rfl⟩:∃n:Nat,v'=n:=⟨v'.toNat,by omega⟩
 (repeat' (conv=>whnf);first|refine aC ?_ ?_<;>intro<;>try omega|refine z2_N15 ?_|fail);all_goals try (conv=>whnf)
 refine .mk [] ?_
 refine LoopOb.mk (Y:=List Fl×Nat) (st:=fun y=>⟨[(10,i64 ((v':Int)-y.1.length)),(8,i64 k),(7, .ptr 2 0),(6, .ptr 1 0),(0, .ptr 0 0)],[src L y.2, .box [.nil, .nil, .nil], .box [.psl 1 (strs (nms ls.length)), .psl 5 (lns ls), .vec 3], .vec 8 (fls y.1)]⟩)
  (inv:=fun y=>y.1.length≤v'∧(∀f∈y.1,FlG ls.length k f)∧(∀i,i<y.1.length→(y.1.getD i fl0).nm =fname i)∧y.2≤2000) (fun y=>v'-y.1.length) ([],p4) [0,1,2,5] ⟨by simp,by simp,by simp,hp4⟩ (by(exact aL)) ?_
 rintro⟨fl,p5⟩ ⟨fl1,fg,fnm,hp5⟩
 dsimp only at fl1 fg fnm hp5⊢
 have hfl:=fll fl
 (repeat' (conv=>whnf);first|refine z1_N15 ?_|fail);all_goals try (conv=>whnf)
 refine CondOb.mk (fun hlt2=>?_) (fun hlt2=>?_)
 ·have hlit:([[.str ⟨#[102]⟩],[.str ⟨#[103]⟩],[.str ⟨#[104]⟩],[.str ⟨#[105]⟩],[.str ⟨#[106]⟩]]:List (List SV))[fl.length]? =some [.str (fname fl.length)]:=by
   rcases(show fl.length=0∨fl.length=1∨fl.length=2∨fl.length=3∨fl.length=4 by omega)with h|h|h|h|h<;>rw [h]<;>rfl
  have hmod:((fls fl).length :Int).tmod 5=fl.length:=by
   rw [hfl];exact Int.tmod_eq_of_lt (by omega) (by omega)
  (repeat' (conv=>whnf);first|refine LitOb.ful ?_|refine aC ?_ ?_<;>intro<;>try omega|refine z1_N15 ?_|refine⟨by decide,?_⟩|refine⟨fl.length,_,hmod,hlit,?_⟩|(refine aM [0,3] (Flow_ok L p5 hL hp5 (nms ls.length) ls fl (fname fl.length) k (by omega) (by omega)) rfl rfl ?_;rintro _ _ ⟨⟨f,p6⟩,⟨hF,hnm,hp6⟩,rfl,rfl⟩;dsimp only at hF hnm hp6⊢)|fail);all_goals try (conv=>whnf)
  refine⟨(fl++[f],p6),[0,1,2,4],⟨by simp only [List.length_append,List.length_singleton];omega,all_app fg hF,fun i hi=>?_,hp6⟩,by simp only [List.length_append,List.length_singleton];omega,by dsimp only;rw [List.length_append,List.length_singleton,fls_app];(exact aL)⟩
  simp only [List.length_append,List.length_singleton]at hi
  by_cases e:i=fl.length
  ·subst e;simp [List.getD_eq_getElem?_getD,hnm]
  ·have:=fnm i (by omega)
   rw [←this]
   simp [List.getD_eq_getElem?_getD,List.getElem?_append_left (show i<fl.length by omega)]
 ·(repeat' (conv=>whnf);first|refine aC ?_ ?_<;>intro _|refine z2_N15 ?_|fail);all_goals try (conv=>whnf)
  refine .mk [.fz 3] ?_
  (repeat' (conv=>whnf);first|refine aC ?_ ?_<;>intro _|refine z1_N15 ?_|fail);all_goals try (conv=>whnf)
  refine⟨(⟨nms ls.length,ls,fl⟩,k,p5),⟨⟨⟨⟨by dsimp only;omega,by dsimp only;omega⟩,⟨by dsimp only;omega,by dsimp only;omega⟩,hnl,fun i hi=>nms_get hi,fun l hl=>⟨(hg l hl).p.e,(hg l hl).p.n⟩,by dsimp only;omega,fnm,fg⟩,by dsimp only;omega,by dsimp only;omega,hg⟩,hp5⟩,rfl,Imp.refl _⟩
theorem NetG.nl {ml mf k:Nat} {n:Nt} (h:NetG ml mf k n):NL n:=by
 have g:=h.g
 refine⟨by rw [g.nl];have:=g.ll;omega,by have:=g.ll;omega,by have:=g.fl;omega,fun s hs=>?_,fun l hl=>?_,fun f hf=>?_⟩
 ·obtain⟨i,hi,rfl⟩:=List.mem_iff_getElem.1 hs
  have:=g.nm i (by rw [←g.nl];exact hi)
  rw [List.getD_eq_getElem?_getD,List.getElem?_eq_getElem hi,Option.getD_some]at this
  rw [this];simp [lname,ByteArray.size]
 ·have:=h.lg l hl
  have h1:=this.w
  have h2:=this.s
  omega
 ·have:=g.fg f hf
  have h1:=this.r1
  obtain⟨b,_,_,p1,p2,hv,_⟩:=this.ct
  obtain⟨i,hi,rfl⟩:=List.mem_iff_getElem.1 hf
  have hn:=g.fn i hi
  rw [List.getD_eq_getElem?_getD,List.getElem?_eq_getElem hi,Option.getD_some]at hn
  refine⟨by rw [hn];simp [fname,ByteArray.size],by omega,by rw [hv];simp;omega⟩
end
section
open Go.Sx Go.Fq Go.Np Go.Pv Go.Dt
theorem ShS.chk {p:Pr} {X:List F} {s:Slt} {e:Int} (h:ShS p X s e):Chk p s:=by
 cases h with
 |opt h hc hv hs=>subst hv;exact .inl ⟨rfl,rfl,h,hc,rfl,rfl⟩
 |inf h hs=>exact .inr (.inr ⟨rfl,rfl,rfl,rfl,h⟩)
theorem ShS.worth {n:Nt} {l:List Dm} {X:List F} {s:Slt} (h:ShS (prg n l) X s 0):prod (wts l) X=(-s.2.2.1.1,s.2.2.1.2,0)∧s.1=1∧Feas (prg n l) X∧VF s.2.2.1∧RSol (prg n l) 1 (val s.2.2.1):=by
 cases h with
 |opt h hc hv hs=>
  have k4:=(prod_ok' hc).2.2.2.1
  subst hv
  refine⟨?_,rfl,h.1,k4,hs⟩
  rw [worth_c]at hc⊢
  have:(prod (wts l) X).2.2 =0:=hc
  show _=(- -(prod (wts l) X).1,(prod (wts l) X).2.1,0)
  rw [Int.neg_neg,←this]
theorem best_pt {n:Nt} {l:List Dm} {v:F} {y:List F} (hv:VF v) (hs:RSol (prg n l) 1 (val v)) (hy:Feas (prg n l) y) (hp:(prod (wts l) y).2.2 =0):fcmp ((prod (wts l) y).1,(prod (wts l) y).2.1) (-v.1,v.2)≤0:=by
 have hc:(prod (prg n l).c y).2.2 =0:=by rw [worth_c];exact hp
 obtain⟨c1,c2,c3,c4,c5⟩:=prod_ok' hc
 have S:=hs.sem (VP.sn hy.1)
 have:=S.low rfl _ (feas_r hy)
 have e:val ((prod (prg n l).c y).1,(prod (prg n l).c y).2.1)= -val ((prod (wts l) y).1,(prod (wts l) y).2.1):=by
  rw [worth_c];exact ng_val (f:=((prod (wts l) y).1,(prod (wts l) y).2.1))
 have k4:=(prod_ok' hp).2.2.2.1
 have hn:VF (-v.1,v.2):=ng_vf.2 hv
 rw [fcmp_le k4 hn,show val (-v.1,v.2)= -val v from ng_val (f:=v)]
 have h5:val ((prod (prg n l).c y).1,(prod (prg n l).c y).2.1)=cst' (prg n l) (at' y):=c5
 rw [e]at h5
 grind
theorem inf_pt {p:Pr} {y:List F} (hs:RSol p 3 0):¬Feas p y:=fun hy=>(hs.sem (VP.sn hy.1)).inf rfl _ (feas_r hy)
def shF (i:Nat):Fl:=⟨fname i,[0],0,1,1,[0,4],1,0⟩
def shN:Nt:=⟨[lname 0],[⟨1,10,1,[],[]⟩],[shF 0,shF 1]⟩
def shL:List Dm:=[⟨0,8,1⟩,⟨0,8,2⟩]
theorem sh_g:NtG 1 shN:=by
 have hf:∀i,FlG 1 1 (shF i):=fun i=>⟨⟨Int.le_refl _,by show(0:Int)<1;decide⟩,⟨Int.le_refl _,by show(1:Int)≤3;decide⟩,⟨Int.le_refl _,by show(1:Int)≤7;decide⟩,⟨Nat.le_refl _,by show 1≤3;decide⟩,fun x hx=>by rw [List.mem_singleton.1 hx];decide,fun i j hij hj=>by have:j<1:=hj;omega,⟨4,by decide,by decide,by show(1:Int)≤1;decide,by show(1:Int)≤12;decide,rfl,Int.le_refl _,by show(0:Int)≤3;decide⟩⟩
 refine⟨by decide,by decide,rfl,fun i hi=>?_,fun l hl=>?_,by decide,fun i hi=>?_,fun f hf'=>?_⟩
 ·have:i=0:=by have:i<1:=hi;omega
  subst this;rfl
 ·rw [List.mem_singleton.1 hl];decide
 ·have:i=0∨i=1:=by have:i<2:=hi;omega
  rcases this with e|e<;>subst e<;>rfl
 ·rcases List.mem_cons.1 hf' with e|e
  ·rw [e];exact hf 0
  ·rw [List.mem_singleton.1 e];exact hf 1
theorem sh_s:PvS shN shL:=by
 refine⟨pchk_of sh_g.chk (by decide) rfl (by decide) ?_,by decide,by decide,by decide,by decide⟩
 intro d hd
 have:d=⟨0,8,1⟩∨d=⟨0,8,2⟩:=by simpa [shL]using hd
 rcases this with e|e<;>subst e<;>unfold DmOK<;>decide
theorem sh_len:(prg shN shL).r.length =5:=by decide+kernel
theorem sh_c {x:Nat→Rat}:cst' (prg shN shL) x= -x 0-2*x 1:=by
 show sm 2 (fun j=>at' (dcs shL) j*x j)=_
 have e0:at' (dcs shL) 0= -1:=by decide+kernel
 have e1:at' (dcs shL) 1= -2:=by decide+kernel
 simp only [sm];rw [e0,e1];grind
theorem sh_f {x:Nat→Rat}:RFeas (prg shN shL) x→x 0+x 1≤10∧x 1≤8:=by
 intro h
 obtain⟨_,h1⟩:=rfeas_iff.1 h
 refine⟨?_,?_⟩
 ·have:=(h1 (crow (hops shN 0) 2,1,(10,1)) (mem_prg.2 (.inl ⟨0,by decide,by decide,rfl⟩))).1 rfl
  have e0:at' (crow (hops shN 0) 2) 0=1:=by decide+kernel
  have e1:at' (crow (hops shN 0) 2) 1=1:=by decide+kernel
  have e2:val (10,1)=10:=by decide+kernel
  have e3:sm 2 (fun j=>at' (crow (hops shN 0) 2) j*x j)=x 0+x 1:=by simp only [sm];rw [e0,e1];grind
  have this:sm 2 (fun j=>at' (crow (hops shN 0) 2) j*x j)≤val (10,1):=this
  rw [e3,e2]at this;exact this
 ·have:=((rk_alon (n:=shN) (l:=shL) (x:=x) (i:=1) (by decide)).1 (h1 (crow (alon 1) 2,1,(8,1)) (mem_prg.2 (.inr ⟨1,by decide, .inr rfl⟩)))).1 rfl
  have e2:val (8,1)=8:=by decide+kernel
  rw [e2]at this;exact this
theorem sh_x:RFeas (prg shN shL) (fun j=>if j=0 then 2 else 8):=by
 refine rfeas_iff.2 ⟨fun j _=>by show(0:Rat)≤if j=0 then 2 else 8;split<;>decide,fun w hw=>?_⟩
 have hw:w∈(prg shN shL).r :=hw
 have e:(prg shN shL).r =[([(1,1),(1,1)],1,(10,1)),([(1,1),(0,1)],2,(0,1)),([(1,1),(0,1)],1,(8,1)),([(0,1),(1,1)],2,(0,1)),([(0,1),(1,1)],1,(8,1))]:=by decide+kernel
 rw [e]at hw
 unfold rk
 show(w.2.1=1→sm 2 _≤_)∧(w.2.1=2→_≤sm 2 _)∧(w.2.1=3→sm 2 _=_)
 simp only [List.mem_cons,List.not_mem_nil,or_false]at hw
 rcases hw with h|h|h|h|h<;>subst h<;>decide+kernel
theorem sh_v {v:F} (f:VF v) (h:RSol (prg shN shL) 1 (val v)):v=(-18,1):=by
 have S:=h.sem (VP.sn sh_s.vp)
 obtain⟨x,hx,ex⟩:=S.att rfl
 have h1:=S.low rfl _ sh_x
 obtain⟨a,b⟩:=sh_f hx
 rw [sh_c]at ex h1
 refine f.inj (by decide) ?_
 have e:val (-18,1)= -18:=by decide+kernel
 rw [e]
 simp at h1
 grind
theorem sh_no {x:Rat}:¬RSol (prg shN shL) 3 x:=fun h=>(h.sem (VP.sn sh_s.vp)).inf rfl _ sh_x
end
end Go.Proofs.YtbcjojomkibgeaaGreat
