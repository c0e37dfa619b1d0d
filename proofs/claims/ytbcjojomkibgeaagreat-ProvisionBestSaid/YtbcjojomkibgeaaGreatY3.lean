/- Lemmas of this seat. Conditions: as stated. -/
import Derived.Test.YtbcjojomkibgeaaGreatY2
set_option linter.unusedVariables false
set_option linter.unusedSimpArgs false
set_option maxHeartbeats 2000000
set_option maxRecDepth 4000
namespace Go.Proofs.YtbcjojomkibgeaaGreat
open Go.Sx Go.Fq Go.Np Go.Pv
theorem aP_Y3 {A B K:Prop} (k:K) (a:A:=by(simp only [zA,zT,zD,zC,zN,ints_len,zR,fr_len,rw_len,dcw_len,drw_len];omega)) (b:B:=by(simp only [zA,zT,zD,zC,zN,ints_len,zR,fr_len,rw_len,dcw_len,drw_len];omega)):(A∧B)∧K:=⟨⟨a,b⟩,k⟩
theorem z2_Y3 {G H:Prop} (k:H) (h:H→G:=by first|exact fun r=>aS r|exact fun r=>aG r|exact fun r=>aD r|exact fun r=>aH r|exact fun r=>aP_Y3 r|exact fun r=>aI r|exact fun r=>aJ r|exact fun r=>aW (.qs [0,1,2,3,4,5] (.l 6 [1] (.l 7 [1] (.l 8 [] (.qs [9] (.l 10 [] .nil .no)) .no) .no) .no)) r|exact fun r=>aW (.qs [0,1,2,3,4,5] (.l 6 [1] (.l 7 [1] (.l 8 [] (.qs [9] (.l 10 [] .nil .no)) .no) .no) .no)) r|exact fun r=>aW (.qs [0,1,2,3,4,5,7,8,9,10] (.l 6 [10,1] (.l 11 [1] (.l 12 [1] (.l 13 [] (.qs [14] (.l 15 [] .nil .no)) .no) .no) .no) .no)) r):G:=h k
theorem z1_Y3 {G H:Prop} (k:H) (h:H→G:=by first|exact fun r=>aS r|exact fun r=>aG r|exact fun r=>aD r|exact fun r=>aP_Y3 r|exact fun r=>aI r|exact fun r=>aJ r|exact fun r=>aW (.qs [0,1,2,3,4,5] (.l 6 [1] (.l 7 [1] (.l 8 [] (.qs [9] (.l 10 [] .nil .no)) .no) .no) .no)) r|exact fun r=>aW (.qs [0,1,2,3,4,5] (.l 6 [1] (.l 7 [1] (.l 8 [] (.qs [9] (.l 10 [] .nil .no)) .no) .no) .no)) r|exact fun r=>aW (.qs [0,1,2,3,4,5,7,8,9,10] (.l 6 [10,1] (.l 11 [1] (.l 12 [1] (.l 13 [] (.qs [14] (.l 15 [] .nil .no)) .no) .no) .no) .no)) r):G:=h k
theorem pProg_ok (n:Nt) (hn:NL n) (l:List Dm) (hl:l.length≤9223372036854775807):Ctr Tryz.prog 13 [ntv n,dml l] [] (fun r o=>o=[]∧r= .tup [prv (prgE n l),i64 (pchk n l)]):=by
 refine Ctr.imp ?_
 refine fI 0 Tryz.func13 ?_
 have cC:=pCheck_ok n hn l hl
 have hll:=dml_len l
 have hln:=lnl n.ln
 have hz:pchk n l=0→chkN n=0∧n.fl.length≤6∧l.length=n.fl.length∧1≤l.length∧∀d∈l,DmOK d:=pchk_zero
 have hE1:pchk n l=0→prgE n l=prg n l:=fun h=>by unfold prgE;rw [if_pos h]
 have hE0:¬pchk n l=0→prgE n l=⟨[],[]⟩:=fun h=>by unfold prgE;rw [if_neg h]
 generalize pchk n l=e at*
 (repeat' (conv=>whnf);first|refine aC ?_ ?_<;>intro<;>try omega|refine z1_Y3 ?_|fail);all_goals try (conv=>whnf)
 refine .mk [] ?_
 (repeat' (conv=>whnf);first|refine aC ?_ ?_<;>intro<;>try omega|refine z1_Y3 ?_|fail);all_goals try (conv=>whnf)
 refine aK [] cC ?_
 (repeat' (conv=>whnf);first|refine aC ?_ ?_<;>intro<;>try omega|refine z1_Y3 ?_|fail);all_goals try (conv=>whnf)
 ·refine .mk [] ?_
  (repeat' (conv=>whnf);first|refine aC ?_ ?_<;>intro _|refine z2_Y3 ?_|fail);all_goals try (conv=>whnf)
  exact⟨rfl,Imp.tup ⟨by rw [hE0 (by assumption)];exact Imp.agg ⟨Imp.nil _,Imp.nil _,trivial⟩,Imp.refl _,trivial⟩⟩
 have he:e=0:=Classical.not_not.1 (by assumption)
 obtain⟨hz1,hz2,hz3,hz4,hz5⟩:=hz he
 obtain⟨gz1,gz2,gz3⟩:=chk_lines hz1
 rw [hE1 he]
 subst he
 clear hE0 hE1 cC
 refine .mk [.fb 0, .fb 1, .fb 3, .nb 4 0 2, .nb 4 1 4] ?_
 refine LoopOb.mk (Y:=Nat) (st:=fun i=>⟨[(26,i64 i),(25,i64 n.ln.length),(24, .psl 5 (lns n.ln)),(9, .ptr 1 0),(8, .fn 38 [.pptr [.fn 37 []], .pptr [dml l]]),(7, .pptr [.fn 37 []]),(4, .ptr 0 0),(3, .pptr [dml l]),(2, .pptr [.psl 1 (strs n.nm), .psl 5 (lns n.ln), .psl 8 (fls n.fl)])],[.box [.nil, .nil], .box [.vec 2, .vec 3], .vec 2 (fr2 []), .vec 4 (rws (lrw n l.length i))]⟩)
  (inv:=fun i=>i≤n.ln.length) (fun i=>n.ln.length-i) 0 [2,4,5,6] (by omega) (by rw [hln];(exact aL)) ?_
 intro i hi
 have hrl:=lrw_len (n:=n) (k:=l.length) (i:=i)
 have hrw:=rw_len (lrw n l.length i)
 (repeat' (conv=>whnf);first|refine z2_Y3 ?_|fail);all_goals try (conv=>whnf)
 refine CondOb.mk (fun hlt=>?_) (fun hlt=>?_)
 ·have hil:i<n.ln.length:=by omega
  have hg:=lng hil
  have cU:=Users_ok n hn (by omega) (i:Int)
  have cR:=pRow2_ok l (by omega) 40 (.pptr [.psl 1 (strs n.nm), .psl 5 (lns n.ln), .psl 8 (fls n.fl)]) (.pptr [i64 i]) (hops n i) 1 (n.ln.getD i ln0).c (fun j _=>pHops_ok n hn j i)
  have hls:lrw n l.length (i+1)=lrw n l.length i++if 0<(users n i).length then [(crow (hops n i) l.length,1,((n.ln.getD i ln0).c,1))]else []:=rfl
  generalize n.ln.getD i ln0=ln at*
  generalize users n i=us at*
  (repeat' (conv=>whnf);first|refine⟨i,_,rfl,hg,?_⟩|refine aC ?_ ?_<;>intro<;>try omega|refine z1_Y3 ?_|fail);all_goals try (conv=>whnf)
  refine .mk [] ?_
  (repeat' (conv=>whnf);first|refine aC ?_ ?_<;>intro<;>try omega|refine z1_Y3 ?_|fail);all_goals try (conv=>whnf)
  refine aK [] cU ?_
  (repeat' (conv=>whnf);first|refine aC ?_ ?_<;>intro<;>try omega|refine z1_Y3 ?_|fail);all_goals try (conv=>whnf)
  ·refine .mk [.fb 4] ?_
   (repeat' (conv=>whnf);first|refine aC ?_ ?_<;>intro<;>try omega|refine z1_Y3 ?_|fail);all_goals try (conv=>whnf)
   refine CallOb.mk [] cR rfl ⟨Imp.fn ⟨Imp.shut rfl,Imp.shut rfl,trivial⟩,Imp.refl _,Imp.refl _,Imp.refl _,Imp.refl _,trivial⟩ rfl rfl ?_
   rintro _ _ ⟨rfl,rfl⟩
   (repeat' (conv=>whnf);first|refine aC ?_ ?_<;>intro<;>try omega|refine z2_Y3 ?_|fail);all_goals try (conv=>whnf)
   refine⟨i+1,[0,1,2,7],by omega,by omega,?_⟩
   rw [hls,if_pos (by rw [ints_len]at*;omega),rws_append];(exact aL)
  ·refine .mk [] ?_
   refine⟨i+1,[0,1,2,3],by omega,by omega,?_⟩
   rw [hls,if_neg (by rw [ints_len]at*;omega),List.append_nil];(exact aL)
 have e:i=n.ln.length:=by omega
 subst e
 clear hi hlt
 (repeat' (conv=>whnf);first|refine aC ?_ ?_<;>intro<;>try omega|refine z1_Y3 ?_|fail);all_goals try (conv=>whnf)
 refine .mk [] ?_
 refine LoopOb.mk (Y:=Nat) (st:=fun i=>⟨[(49,i64 i),(48,i64 l.length),(47,dml l),(9, .ptr 1 0),(8, .fn 38 [.pptr [.fn 37 []], .pptr [dml l]]),(7, .pptr [.fn 37 []]),(4, .ptr 0 0)],[.box [.nil, .nil], .box [.vec 2, .vec 3], .vec 2 (fr2 (dcw l i)), .vec 4 (rws (lrw n l.length n.ln.length++drw l i))]⟩)
  (inv:=fun i=>i≤l.length) (fun i=>l.length-i) 0 [0,1,2,3] (by omega) (by rw [hll,show drw l 0=[]from rfl,List.append_nil];(exact aL)) ?_
 clear hrw
 intro i hi
 have hrl2:=drw_len (l:=l) (i:=i)
 have hcl:=dcw_len (l:=l) (i:=i)
 have hra:(lrw n l.length n.ln.length++drw l i).length ≤30:=by rw [List.length_append];omega
 have hrw:=rw_len (lrw n l.length n.ln.length++drw l i)
 have hds:drw l (i+1)=drw l i++[(crow (alon i) l.length,2,((l.getD i dm0).lo,1)),(crow (alon i) l.length,1,((l.getD i dm0).hi,1))]:=rfl
 have hcs:dcw l (i+1)=dcw l i++[(-(l.getD i dm0).w,1)]:=rfl
 (repeat' (conv=>whnf);first|refine z2_Y3 ?_|fail);all_goals try (conv=>whnf)
 refine CondOb.mk (fun hlt=>?_) (fun hlt=>?_)
 ·have hil:i<l.length:=by omega
  have hg:=dml_get hil
  have hd:=dm_in hz5 hil
  have cR1:=pRow1_ok l (by omega) 42 (.pptr [i64 i]) (alon i) 2 (l.getD i dm0).lo (fun j _=>pAlon_ok j i)
  have cR2:=pRow1_ok l (by omega) 42 (.pptr [i64 i]) (alon i) 1 (l.getD i dm0).hi (fun j _=>pAlon_ok j i)
  have cW:=pWhole_ok (0-(l.getD i dm0).w)
  unfold DmOK at hd
  generalize l.getD i dm0=d at*
  (repeat' (conv=>whnf);first|refine⟨i,_,rfl,hg,?_⟩|refine aC ?_ ?_<;>intro<;>try omega|refine z1_Y3 ?_|fail);all_goals try (conv=>whnf)
  refine .mk [] ?_
  (repeat' (conv=>whnf);first|refine aC ?_ ?_<;>intro<;>try omega|refine z1_Y3 ?_|fail);all_goals try (conv=>whnf)
  refine aK [] cW ?_
  (repeat' (conv=>whnf);first|refine aC ?_ ?_<;>intro<;>try omega|refine z1_Y3 ?_|fail);all_goals try (conv=>whnf)
  refine .mk [.fb 4] ?_
  (repeat' (conv=>whnf);first|refine aC ?_ ?_<;>intro<;>try omega|refine z2_Y3 ?_|(refine CallOb.mk [] cR1 rfl ⟨Imp.fn ⟨Imp.shut rfl,trivial⟩,Imp.refl _,Imp.refl _,Imp.refl _,Imp.refl _,trivial⟩ rfl rfl ?_;rintro _ _ ⟨rfl,rfl⟩)|(refine CallOb.mk [] cR2 rfl ⟨Imp.fn ⟨Imp.shut rfl,trivial⟩,Imp.refl _,Imp.refl _,Imp.refl _,Imp.refl _,trivial⟩ rfl rfl ?_;rintro _ _ ⟨rfl,rfl⟩)|fail);all_goals try (conv=>whnf)
  refine⟨i+1,[0,1,7,9],by omega,by omega,?_⟩
  rw [←Int.zero_sub]at hcs
  rw [hds,hcs,←List.append_assoc,rws_append (lrw n l.length n.ln.length++drw l i),fr2_append];(exact aL)
 ·have e:i=l.length:=by omega
  subst e
  (repeat' (conv=>whnf);first|refine aC ?_ ?_<;>intro _|refine z1_Y3 ?_|fail);all_goals try (conv=>whnf)
  refine .mk [.fz 2, .fz 3] ?_
  (repeat' (conv=>whnf);first|refine aC ?_ ?_<;>intro _|refine z1_Y3 ?_|fail);all_goals try (conv=>whnf)
  rw [dcw_all]
  exact⟨rfl,Imp.refl _⟩
end Go.Proofs.YtbcjojomkibgeaaGreat
