/- Lemmas of this seat. Conditions: as stated. -/
import Derived.Test.YtjhmjiimpmmnhaaGreatN13
import Derived.Test.YtjhmjiimpmmnhaaGreatN6
set_option linter.unusedVariables false
set_option linter.unusedSimpArgs false
set_option maxHeartbeats 2000000
set_option maxRecDepth 4000
namespace Go.Proofs.YtjhmjiimpmmnhaaGreat
open Go.Sx Go.Np Go.Cv
theorem z2_Nw {G H:Prop} (k:H) (h:H→G:=by first|exact fun r=>aS r|exact fun r=>aG r|exact fun r=>aD r|exact fun r=>aP_Vc r|exact fun r=>aI r|exact fun r=>aJ r|exact fun r=>aW (.qs [0,1,2,3] (.l 4 [2] (.qs [5,6,7] (.l 8 [] .nil .no)) .no)) r|exact fun r=>aW (.qs [0,1,2,3,4,5,6,7,8,9,10,11,12,13,14] .nil) r):G:=h k
theorem z1_Nw {G H:Prop} (k:H) (h:H→G:=by first|exact fun r=>aS r|exact fun r=>aG r|exact fun r=>aD r|exact fun r=>aH r|exact fun r=>aP_Vc r|exact fun r=>aI r|exact fun r=>aJ r|exact fun r=>aW (.qs [0,1,2,3] (.l 4 [2] (.qs [5,6,7] (.l 8 [] .nil .no)) .no)) r|exact fun r=>aW (.qs [0,1,2,3,4,5,6,7,8,9,10,11,12,13,14] .nil) r):G:=h k
theorem Flow_ok (L:List Int) (k:Nat) (hL:L.length≤2000) (hk:k≤2000) (nm:List ByteArray) (ls:List Ln) (fl:List Fl) (s:ByteArray) (c:Nat) (hc:1≤c∧c≤2) (hm:1≤ls.length∧ls.length≤4):
  Ctr Tryz.prog 35 [.ptr 0 0, .agg [.psl 1 (strs nm), .psl 5 (lns ls), .vec 1], .str s,i64 c] [src L k, .vec 8 (fls fl)] (fun r o=>∃x:Fl×Nat,(FlG ls.length c x.1∧x.1.nm=s∧x.2≤2000)∧o=[src L x.2, .vec 8 (fls fl)]∧r=fv x.1):=by
 refine Ctr.impE ?_
 refine fI 2 Tryz.func35 ?_
 have hll:=lnl ls
 (repeat' (conv=>whnf);first|refine aC ?_ ?_<;>intro<;>try omega|refine z1_Nw ?_|fail);all_goals try (conv=>whnf)
 refine aM [0] (N_ok L k hL hk c (by omega) (by omega)) rfl rfl ?_
 rintro _ _ ⟨⟨cl,k1⟩,⟨cl1,cl2,hk1⟩,rfl,rfl⟩
 dsimp only at cl1 cl2 hk1⊢
 (repeat' (conv=>whnf);first|refine aC ?_ ?_<;>intro<;>try omega|refine z1_Nw ?_|fail);all_goals try (conv=>whnf)
 refine aM [0] (Contract_ok L k1 hL hk1) rfl rfl ?_
 rintro _ _ ⟨⟨⟨b,p,q⟩,k2⟩,⟨⟨b1,b2⟩,⟨p1,p2⟩,⟨q1,q2⟩,hk2⟩,rfl,rfl⟩
 dsimp only at b1 b2 p1 p2 q1 q2 hk2⊢
 (repeat' (conv=>whnf);first|refine aC ?_ ?_<;>intro<;>try omega|refine z1_Nw ?_|fail);all_goals try (conv=>whnf)
 refine aM [0] (Range_ok L k2 hL hk2 1 3 (by omega) (by omega) (by omega)) rfl rfl ?_
 rintro _ _ ⟨⟨lo,k3⟩,⟨lo1,lo2,hk3⟩,rfl,rfl⟩
 dsimp only at lo1 lo2 hk3⊢
 (repeat' (conv=>whnf);first|refine aC ?_ ?_<;>intro<;>try omega|refine z1_Nw ?_|fail);all_goals try (conv=>whnf)
 refine aM [0] (N_ok L k3 hL hk3 5 (by omega) (by omega)) rfl rfl ?_
 rintro _ _ ⟨⟨hi,k4⟩,⟨hi1,hi2,hk4⟩,rfl,rfl⟩
 dsimp only at hi1 hi2 hk4⊢
 (repeat' (conv=>whnf);first|refine aC ?_ ?_<;>intro<;>try omega|refine z1_Nw ?_|fail);all_goals try (conv=>whnf)
 refine aM [0] (N_ok L k4 hL hk4 (lns ls).length (by omega) (by omega)) rfl rfl ?_
 rintro _ _ ⟨⟨a,k5⟩,⟨a1,a2,hk5⟩,rfl,rfl⟩
 dsimp only at a1 a2 hk5⊢
 (repeat' (conv=>whnf);first|refine LitOb.ful ?_|refine aC ?_ ?_<;>intro<;>try omega|refine z1_Nw ?_|fail);all_goals try (conv=>whnf)
 refine CallOb.mk [0] (Pick_ok L k5 hL hk5 [1,((lns ls).length :Int)-1] (by simp) (by simp)) rfl ⟨Imp.refl _,Imp.fulp rfl,trivial⟩ rfl rfl ?_
 rintro _ _ ⟨⟨st,k6⟩,⟨st1,hk6⟩,rfl,rfl⟩
 dsimp only at st1 hk6⊢
 have st2:st=1∨st+1=ls.length:=by
  simp only [List.mem_cons,List.not_mem_nil,or_false]at st1;omega
 clear st1
 (repeat' (conv=>whnf);first|refine aC ?_ ?_<;>intro<;>try omega|refine z1_Nw ?_|fail);all_goals try (conv=>whnf)
 refine aM [0] (Range_ok L k6 hL hk6 1 (min 3 ((lns ls).length :Int)) (by omega) (by omega) (by omega)) rfl rfl ?_
 rintro _ _ ⟨⟨v,k7⟩,⟨v1,v2,hk7⟩,rfl,rfl⟩
 dsimp only at v1 v2 hk7⊢
 obtain⟨a,rfl⟩:∃n:Nat,a=n:=⟨a.toNat,by omega⟩
 obtain⟨st,rfl⟩:∃n:Nat,st=n:=⟨st.toNat,by omega⟩
 obtain⟨v,rfl⟩:∃n:Nat,v=n:=⟨v.toNat,by omega⟩
 have ha:a<ls.length:=by omega
 obtain⟨m,hme⟩:∃m,m=ls.length:=⟨_,rfl⟩
 rw [←hme]at hm ha st2
 (repeat' (conv=>whnf);first|refine aC ?_ ?_<;>intro<;>try omega|refine z2_Nw ?_|fail);all_goals try (conv=>whnf)
 refine .mk [.nb 4 1 1] ?_
 refine LoopOb.mk (Y:=Nat) (st:=fun t=>⟨[(12,i64 ((v:Int)-t)),(11,i64 st),(10,i64 (((a+t*st)%m:Nat):Int)),(9, .ptr 4 0),(8, .ptr 3 0),(5, .ptr 2 0),(0, .ptr 0 0)],[src L k7, .vec 8 (fls fl), .box [.psl 1 (strs nm), .psl 5 (lns ls), .vec 1], .box [.str ByteArray.empty, .nil,i64 0,i64 0,i64 0, .nil,i64 0,i64 0], .box [.str s, .vec 5,i64 cl,i64 lo,i64 (lo+hi), .psl 1 (ints (stv b p)),i64 p,i64 q], .vec 1 (ints (rr a st m t))]⟩)
  (inv:=fun t=>t≤v) (fun t=>v-t) 0 [0,1,2,3,4,5] (by omega) (by rw [Nat.zero_mul,Nat.add_zero,Nat.mod_eq_of_lt ha];(exact aL)) ?_
 intro t ht
 have hrl:=ints_len (rr a st m t)
 have hrr:=rr_len (a:=a) (s:=st) (m:=m) (t:=t)
 have hat:=Nat.mod_lt (a+t*st) (show 0<m by omega)
 (repeat' (conv=>whnf);first|refine z1_Nw ?_|fail);all_goals try (conv=>whnf)
 refine CondOb.mk (fun hlt=>?_) (fun hlt=>?_)
 ·have hmd:=md_nn (x:=(((a+t*st)%m:Nat):Int)+st) (n:=((lns ls).length :Int)) (by omega) (by omega)
  have hln:((lns ls).length :Int)=m:=by omega
  have hs2:=at_step (a:=a) (s:=st) (m:=m) (t:=t)
  have hsu:=rr_succ (a:=a) (s:=st) (m:=m) (t:=t)
  rw [hln,hs2,←hln]at hmd
  generalize (a+t*st)%m=x at*
  (repeat' (conv=>whnf);first|refine aC ?_ ?_<;>intro<;>try omega|refine z1_Nw ?_|(refine aK [] (Mod_ok ((x:Int)+st) ((lns ls).length :Int) (by omega) (by omega)) ?_)|fail);all_goals try (conv=>whnf)
  exact⟨t+1,[0,1,2,3,4,7],by omega,by omega,by rw [hmd,hsu,ints_app];(exact aL)⟩
 ·have e:t=v:=by omega
  subst e
  have hne:2≤t→(rr a st m t).getD 0 0≠(rr a st m t).getD 1 0:=fun h2=>by
   rw [rr_get (by omega),rr_get (by omega)]
   have:=rr_nd (m:=m) (a:=a) (s:=st) (i:=0) (j:=1) (by omega) (by omega) ha (by omega) (by omega) (by omega) (by omega)
   omega
  (repeat' (conv=>whnf);first|refine Gh.mk [.fz 5] ?_|(refine CondOb.mk (fun h'=>?_) (fun h'=>?_)<;>first|(exfalso;first|omega|exact hne (by omega) h')|skip)|refine aC ?_ ?_<;>intro<;>try omega|refine z2_Nw ?_|refine⟨0,rfl,by omega,?_⟩|refine⟨1,rfl,by omega,?_⟩|refine⟨_,ints_get (by omega),?_⟩|fail);all_goals try (conv=>whnf)
  all_goals
   refine⟨(⟨s,rr a st m t,cl,lo,lo+hi,stv b p,p,q⟩,k7),⟨?_,rfl,hk7⟩,rfl,Imp.refl _⟩
   refine⟨⟨cl1,cl2⟩,⟨lo1,lo2⟩,⟨by dsimp only;omega,by dsimp only;omega⟩,⟨by dsimp only;omega,by dsimp only;omega⟩,?_,?_,⟨b,b1,b2,by dsimp only;omega,⟨by dsimp only;omega,Int.natCast_dvd_natCast.2 p2.2⟩,rfl,q1,q2⟩⟩
   ·intro x hx
    have:=rr_mem (by omega) hx
    omega
   ·intro i j hij hj
    dsimp only at hj⊢
    rw [hrr]at hj
    rw [rr_get (by omega),rr_get (by omega)]
    have:=rr_nd (m:=m) (a:=a) (s:=st) (i:=i) (j:=j) (by omega) (by omega) ha (by omega) (by omega) (by omega) (by omega)
    omega
theorem z4_Nw {G H:Prop} (k:H) (h:H→G:=by first|exact fun r=>aS r|exact fun r=>aG r|exact fun r=>aD r|exact fun r=>aP_Vc r|exact fun r=>aI r|exact fun r=>aJ r|exact fun r=>aW (.qs [0,1,3,4,5,6] (.l 2 [4,1] (.qs [7,8] (.l 9 [1] (.l 10 [] (.qs [11] (.l 12 [] .nil .no)) .no) .no)) .no)) r|exact fun r=>aW (.qs [0,1,2,3] (.l 4 [1] (.l 5 [1] (.l 6 [] (.qs [7] (.l 8 [] .nil .no)) .no) .no) .no)) r|exact fun r=>aW (.qs [0,1,2,3,5,6,7,8,11] (.l 4 [6,3,1] (.qs [9,10] (.l 12 [1] (.l 13 [1] (.l 14 [] (.qs [15] (.l 16 [] .nil .no)) .no) .no) .no)) .no)) r):G:=h k
theorem z3_Nw {G H:Prop} (k:H) (h:H→G:=by first|exact fun r=>aS r|exact fun r=>aG r|exact fun r=>aD r|exact fun r=>aH r|exact fun r=>aP_Vc r|exact fun r=>aI r|exact fun r=>aJ r|exact fun r=>aW (.qs [0,1,3,4,5,6] (.l 2 [4,1] (.qs [7,8] (.l 9 [1] (.l 10 [] (.qs [11] (.l 12 [] .nil .no)) .no) .no)) .no)) r|exact fun r=>aW (.qs [0,1,2,3] (.l 4 [1] (.l 5 [1] (.l 6 [] (.qs [7] (.l 8 [] .nil .no)) .no) .no) .no)) r|exact fun r=>aW (.qs [0,1,2,3,5,6,7,8,11] (.l 4 [6,3,1] (.qs [9,10] (.l 12 [1] (.l 13 [1] (.l 14 [] (.qs [15] (.l 16 [] .nil .no)) .no) .no) .no)) .no)) r):G:=h k
theorem Net_ok (L:List Int) (p:Nat) (hL:L.length≤2000) (hp:p≤2000) (ml mf:Nat) (hml:1≤ml∧ml≤4) (hmf:mf≤5):
  Ctr Tryz.prog 9 [.ptr 0 0,i64 ml,i64 mf] [src L p] (fun r o=>∃x:Nt×Nat×Nat,(NetG ml mf x.2.1 x.1∧x.2.2≤2000)∧o=[src L x.2.2]∧r=ntv x.1):=by
 refine Ctr.impE ?_
 refine fI 1 Tryz.func9 ?_
 (repeat' (conv=>whnf);first|refine aC ?_ ?_<;>intro<;>try omega|refine z3_Nw ?_|fail);all_goals try (conv=>whnf)
 refine aM [0] (Range_ok L p hL hp 1 2 (by omega) (by omega) (by omega)) rfl rfl ?_
 rintro _ _ ⟨⟨k,p1⟩,⟨k1,k2,hp1⟩,rfl,rfl⟩
 dsimp only at k1 k2 hp1⊢
 obtain⟨k,rfl⟩:∃n:Nat,k=n:=⟨k.toNat,by omega⟩
 (repeat' (conv=>whnf);first|refine aC ?_ ?_<;>intro<;>try omega|refine z3_Nw ?_|fail);all_goals try (conv=>whnf)
 refine aM [0] (Range_ok L p1 hL hp1 1 ml (by omega) (by omega) (by omega)) rfl rfl ?_
 rintro _ _ ⟨⟨v,p2⟩,⟨v1,v2,hp2⟩,rfl,rfl⟩
 dsimp only at v1 v2 hp2⊢
 obtain⟨v,rfl⟩:∃n:Nat,v=n:=⟨v.toNat,by omega⟩
 (repeat' (conv=>whnf);first|refine aC ?_ ?_<;>intro<;>try omega|refine z4_Nw ?_|fail);all_goals try (conv=>whnf)
 refine .mk [.nb 2 0 1, .nb 2 1 5, .nb 2 2 8] ?_
 refine LoopOb.mk (Y:=List Ln×Nat) (st:=fun y=>⟨[(9,i64 ((v:Int)-y.1.length)),(8,i64 k),(7, .ptr 2 0),(6, .ptr 1 0),(0, .ptr 0 0),(2,i64 mf)],[src L y.2, .box [.nil, .nil, .nil], .box [.vec 3, .vec 4, .vec 5], .vec 1 (strs (nms y.1.length)), .vec 5 (lns y.1), .vec 8 []]⟩)
  (inv:=fun y=>y.1.length≤v∧(∀l∈y.1,LnG k l)∧y.2≤2000) (fun y=>v-y.1.length) ([],p2) [0,1,2,3,4,5] ⟨by simp,by simp,hp2⟩ (by(exact aL)) ?_
 rintro⟨ls,p3⟩ ⟨hl,hg,hp3⟩
 dsimp only at hl hg hp3⊢
 have hsl:=stl (nms ls.length)
 have hnl:=nms_len (t:=ls.length)
 have hll:=lnl ls
 (repeat' (conv=>whnf);first|refine z3_Nw ?_|fail);all_goals try (conv=>whnf)
 refine CondOb.mk (fun hlt=>?_) (fun hlt=>?_)
 ·have hlit:([[.str ⟨#[97]⟩],[.str ⟨#[98]⟩],[.str ⟨#[99]⟩],[.str ⟨#[100]⟩]]:List (List SV))[ls.length]? =some [.str (lname ls.length)]:=by
   rcases(show ls.length=0∨ls.length=1∨ls.length=2∨ls.length=3 by omega)with h|h|h|h<;>rw [h]<;>rfl
  have hmod:((strs (nms ls.length)).length :Int).tmod 4=ls.length:=by
   rw [hsl,hnl];exact Int.tmod_eq_of_lt (by omega) (by omega)
  (repeat' (conv=>whnf);first|refine LitOb.ful ?_|refine aC ?_ ?_<;>intro<;>try omega|refine z3_Nw ?_|refine⟨by decide,?_⟩|refine⟨ls.length,_,hmod,hlit,?_⟩|(refine aM [0] (Port_ok L p3 hL hp3 k (by omega)) rfl rfl ?_;rintro _ _ ⟨⟨l,p4⟩,⟨hP,hw,hs,hp4⟩,rfl,rfl⟩;dsimp only at hP hw hs hp4⊢)|fail);all_goals try (conv=>whnf)
  exact⟨(ls++[l],p4),[0,1,2,6,7,5],⟨by simp only [List.length_append,List.length_singleton];omega,all_app hg ⟨hP,hw,hs⟩,hp4⟩,by simp only [List.length_append,List.length_singleton];omega,by dsimp only;rw [List.length_append,List.length_singleton,nms_succ,strs_app,lns_app];(exact aL)⟩
 have hv:v=ls.length:=by omega
 subst hv
 (repeat' (conv=>whnf);first|refine aC ?_ ?_<;>intro<;>try omega|refine z4_Nw ?_|fail);all_goals try (conv=>whnf)
 refine .mk [.fz 3, .fz 4] ?_
 (repeat' (conv=>whnf);first|refine aC ?_ ?_<;>intro<;>try omega|refine z4_Nw ?_|fail);all_goals try (conv=>whnf)
 refine aM [0] (Range_ok L p3 hL hp3 0 mf (by omega) (by omega) (by omega)) rfl rfl ?_
 rintro _ _ ⟨⟨v',p4⟩,⟨w1,w2,hp4⟩,rfl,rfl⟩
 dsimp only at w1 w2 hp4⊢
 obtain⟨v',rfl⟩:∃n:Nat,v'=n:=⟨v'.toNat,by omega⟩
 (repeat' (conv=>whnf);first|refine aC ?_ ?_<;>intro<;>try omega|refine z4_Nw ?_|fail);all_goals try (conv=>whnf)
 refine .mk [] ?_
 refine LoopOb.mk (Y:=List Fl×Nat) (st:=fun y=>⟨[(10,i64 ((v':Int)-y.1.length)),(8,i64 k),(7, .ptr 2 0),(6, .ptr 1 0),(0, .ptr 0 0)],[src L y.2, .box [.nil, .nil, .nil], .box [.psl 1 (strs (nms ls.length)), .psl 5 (lns ls), .vec 3], .vec 8 (fls y.1)]⟩)
  (inv:=fun y=>y.1.length≤v'∧(∀f∈y.1,FlG ls.length k f)∧(∀i,i<y.1.length→(y.1.getD i fl0).nm =fname i)∧y.2≤2000) (fun y=>v'-y.1.length) ([],p4) [0,1,2,5] ⟨by simp,by simp,by simp,hp4⟩ (by(exact aL)) ?_
 rintro⟨fl,p5⟩ ⟨fl1,fg,fnm,hp5⟩
 dsimp only at fl1 fg fnm hp5⊢
 have hfl:=fll fl
 (repeat' (conv=>whnf);first|refine z3_Nw ?_|fail);all_goals try (conv=>whnf)
 refine CondOb.mk (fun hlt2=>?_) (fun hlt2=>?_)
 ·have hlit:([[.str ⟨#[102]⟩],[.str ⟨#[103]⟩],[.str ⟨#[104]⟩],[.str ⟨#[105]⟩],[.str ⟨#[106]⟩]]:List (List SV))[fl.length]? =some [.str (fname fl.length)]:=by
   rcases(show fl.length=0∨fl.length=1∨fl.length=2∨fl.length=3∨fl.length=4 by omega)with h|h|h|h|h<;>rw [h]<;>rfl
  have hmod:((fls fl).length :Int).tmod 5=fl.length:=by
   rw [hfl];exact Int.tmod_eq_of_lt (by omega) (by omega)
  (repeat' (conv=>whnf);first|refine LitOb.ful ?_|refine aC ?_ ?_<;>intro<;>try omega|refine z3_Nw ?_|refine⟨by decide,?_⟩|refine⟨fl.length,_,hmod,hlit,?_⟩|(refine aM [0,3] (Flow_ok L p5 hL hp5 (nms ls.length) ls fl (fname fl.length) k (by omega) (by omega)) rfl rfl ?_;rintro _ _ ⟨⟨f,p6⟩,⟨hF,hnm,hp6⟩,rfl,rfl⟩;dsimp only at hF hnm hp6⊢)|fail);all_goals try (conv=>whnf)
  refine⟨(fl++[f],p6),[0,1,2,4],⟨by simp only [List.length_append,List.length_singleton];omega,all_app fg hF,fun i hi=>?_,hp6⟩,by simp only [List.length_append,List.length_singleton];omega,by dsimp only;rw [List.length_append,List.length_singleton,fls_app];(exact aL)⟩
  simp only [List.length_append,List.length_singleton]at hi
  by_cases e:i=fl.length
  ·subst e;simp [List.getD_eq_getElem?_getD,hnm]
  ·have:=fnm i (by omega)
   rw [←this]
   simp [List.getD_eq_getElem?_getD,List.getElem?_append_left (show i<fl.length by omega)]
 ·(repeat' (conv=>whnf);first|refine aC ?_ ?_<;>intro _|refine z4_Nw ?_|fail);all_goals try (conv=>whnf)
  refine .mk [.fz 3] ?_
  (repeat' (conv=>whnf);first|refine aC ?_ ?_<;>intro _|refine z3_Nw ?_|fail);all_goals try (conv=>whnf)
  refine⟨(⟨nms ls.length,ls,fl⟩,k,p5),⟨⟨⟨⟨by dsimp only;omega,by dsimp only;omega⟩,⟨by dsimp only;omega,by dsimp only;omega⟩,hnl,fun i hi=>nms_get hi,fun l hl=>⟨(hg l hl).p.e,(hg l hl).p.n⟩,by dsimp only;omega,fnm,fg⟩,by dsimp only;omega,by dsimp only;omega,hg⟩,hp5⟩,rfl,Imp.refl _⟩
end Go.Proofs.YtjhmjiimpmmnhaaGreat
