/- Lemmas of this seat. Conditions: as stated. -/
import Derived.Test.YtjhmjiimpmmnhaaGreatR1
import Derived.Test.YtjhmjiimpmmnhaaGreatPl
set_option linter.unusedVariables false
set_option linter.unusedSimpArgs false
set_option maxHeartbeats 2000000
set_option maxRecDepth 4000
namespace Go.Proofs.YtjhmjiimpmmnhaaGreat
section
open Go.Sx Go.Cv
theorem bdV {vs:List Int} {p:Nat} {q:Int} (h:VF vs p q):Bd vs p q:=⟨h.p1,h.pn,by have:=h.n2;omega,h.q0,by have:=h.q1;omega,fun k=>by
 by_cases hk:k<vs.length
 ·rcases h.v k hk with h|h
  ·rw [h];exact⟨by decide,by decide⟩
  ·omega
 ·rw [List.getD_eq_getElem?_getD,List.getElem?_eq_none (by omega)];exact⟨by decide,by decide⟩⟩
theorem jAt_ok (vs:List Int) (p:Nat) (q t:Int) (hb:Bd vs p q) (ht:0≤t) (ht2:t≤1048576):
  Ctr Tryz.prog 93 [crv vs p q,i64 t] [] (fun r o=>o=[]∧r=i64 (val vs p q t.toNat)):=by
 obtain⟨p1,pn,hn,q0,q1,hv⟩:=hb
 obtain⟨t,rfl⟩:=Int.eq_ofNat_of_zero_le ht
 simp only [Int.toNat_natCast]
 refine fI 0 Tryz.func93 ?_
 (repeat' (conv=>whnf);first|refine aC ?_ ?_<;>intro _|refine z1_R1 ?_|fail);all_goals try (conv=>whnf)
 all_goals try (simp only [ints_len]at*)
 all_goals try omega
 ·exact⟨trivial,by simp only [oneS];rw [val_lt (by omega)]⟩
 ·have hle:vs.length≤t:=by omega
  have e1:((t:Int)-vs.length).tdiv p=((t-vs.length)/p:Nat):=by
   rw [Int.tdiv_eq_ediv_of_nonneg (by omega)]
   push_cast [Int.ofNat_sub hle];rfl
  have hx:=at_idx hle p1 pn
  have hd:(t-vs.length)/p≤t-vs.length:=Nat.div_le_self _ _
  have hval:val vs p q t=if vs.getD (t-((t-vs.length)/p+1)*p) 0=INF then INF else vs.getD (t-((t-vs.length)/p+1)*p) 0+((t-vs.length)/p+1:Nat)*q:=by
   simp only [val];rw [if_neg (by omega)]
  rw [hval,e1]
  generalize (t-vs.length)/p=k at*
  have e3:((k:Int)+1)*(p:Int)=((k+1)*p:Nat):=by push_cast;rfl
  have hkq:=mul_bd (a:=(k:Int)+1) (b:=q) (A:=1048577) (B:=1099511627776) (by omega) (by omega) (by omega) (by omega)
  have hv1:=hv ((t:Int)-((k:Int)+1)*p).toNat
  refine⟨by omega,?_⟩
  (repeat' (conv=>whnf);first|refine aC ?_ ?_<;>intro _|refine z1_R1 ?_|fail);all_goals try (conv=>whnf)
  all_goals rw [show((t:Int)-((k:Int)+1)*p).toNat =t-(k+1)*p by omega]at*
  ·exact⟨rfl,by simp only [oneS];rw [if_pos (by assumption)];congr 1⟩
  ·exact⟨rfl,by simp only [oneS];rw [if_neg (by assumption)];push_cast;rfl⟩
theorem jVal_ok (vs:List Int) (p:Nat) (q t:Int) (h:VF vs p q) (ht:0≤t) (ht2:t≤1048576):
  Ctr Tryz.prog 63 [crv vs p q,i64 t] [] (fun r o=>o=[]∧r= .tup [i64 (val vs p q t.toNat),i64 0]):=by
 have hv:=h.valid
 have hn:=h.n2
 refine Ctr.imp ?_
 refine fI 0 Tryz.func63 ?_
 (repeat' (conv=>whnf);first|refine aC ?_ ?_<;>intro<;>try omega|refine z1_R1 ?_|(refine aK [] (curve_ok vs p q) ?_)|(refine aK [] (jAt_ok vs p q t (bdV h) ht ht2) ?_)|fail);all_goals try (conv=>whnf)
 all_goals first
  |exact absurd hv (by assumption)
  |exact⟨rfl,Imp.refl _⟩
end
section
open Go.Sx Go.Cv Go.Gd
theorem room_bd {n i:Nat} {s:Int} (hn:n≤60) (hi:i≤n) (h0:1≤s) (h1:s≤1500):0≤((n:Int)+1-i)*s∧((n:Int)+1-i)*s≤91500:=by
 have h:((n:Int)+1-i)*s≤61*1500:=Int.mul_le_mul (by omega) (by omega) (by omega) (by omega)
 exact⟨Int.mul_nonneg (by omega) (by omega),by omega⟩
theorem gd_bd {ts:List Int} {t:Int} (hb:∀x∈ts,0≤x∧x≤t) {i:Nat} (hi:i<ts.length):0≤ts.getD i 0∧ts.getD i 0≤t:=by
 rw [List.getD_eq_getElem?_getD,List.getElem?_eq_getElem hi];exact hb _ (List.getElem_mem hi)
theorem room_ok (vs:List Int) (p:Nat) (q s:Int) (ts:List Int) (t:Int) (h:VF vs p q) (hs:1≤s∧s≤1500) (hl:ts.length≤60) (ht:0≤t∧t≤400) (hb:∀x∈ts,0≤x∧x≤t):
  Ctr Tryz.prog 40 [crv vs p q,i64 s, .vec 0,i64 t] [.vec 1 (ints ts)] (fun r o=>o=[.vec 1 (ints ts)]∧r= .bp (rmP (val vs p q) s ts t)):=by
 refine Ctr.imp ?_
 refine fI 1 Tryz.func40 ?_
 have hl2:=ints_len ts
 (repeat' (conv=>whnf);first|refine aC ?_ ?_<;>intro<;>try omega|refine z1_R1 ?_|fail);all_goals try (conv=>whnf)
 refine LoopOb.mk (Y:=Nat) (st:=fun i=>⟨[(9,i64 i),(8, .bl false),(4, .ptr 1 0),(0,crv vs p q),(1,i64 s),(2, .vec 0),(3,i64 t)],[.vec 1 (ints ts), .box [.psl 1 (ints vs),i64 p,i64 q]]⟩)
  (inv:=fun i=>i≤ts.length+1∧∀k,k<i→((ts.length:Int)+1-k)*s≤val vs p q (t+1-(ts++[t]).getD k 0).toNat) (fun i=>ts.length+1-i) 0 [0,1] ⟨by omega,fun k hk=>by omega⟩ (by(exact aL)) ?_
 rintro i ⟨hi,hk⟩
 (repeat' (conv=>whnf);first|refine z1_R1 ?_|fail);all_goals try (conv=>whnf)
 refine CondOb.mk (fun hlt=>?_) (fun hlt=>?_)
 ·have hm:=room_bd (i:=i) hl (by omega) hs.1 hs.2
  have cont:∀x,x=(ts++[t]).getD i 0→((ts.length:Int)+1-i)*s≤val vs p q (t+1-x).toNat →∀k,k<i+1→((ts.length:Int)+1-k)*s≤val vs p q (t+1-(ts++[t]).getD k 0).toNat :=fun x hx hle k hk2=>by
   by_cases e:k=i
   ·subst e;rw [←hx];exact hle
   ·exact hk k (by omega)
  have stop:∀x,x=(ts++[t]).getD i 0→¬((ts.length:Int)+1-i)*s≤val vs p q (t+1-x).toNat →¬rmP (val vs p q) s ts t:=fun x hx hle hr=>hle (by rw [hx];exact hr i (by omega))
  (repeat' (conv=>whnf);first|refine z1_R1 ?_|fail);all_goals try (conv=>whnf)
  refine CondOb.mk (fun hl3=>?_) (fun hl3=>?_)
  ·have hit:i<ts.length:=by omega
   have hg:=ints_get (l:=ts) (j:=i) hit
   have hgb:=gd_bd hb hit
   have hx:ts.getD i 0=(ts++[t]).getD i 0:=(getD_app hit).symm
   generalize ts.getD i 0=x at*
   have cV:=jVal_ok vs p q (t+1-x) h (by omega) (by omega)
   have cont:=cont x hx
   have stop:=stop x hx
   generalize val vs p q (t+1-x).toNat =V at*
   (repeat' (conv=>whnf);first|refine⟨_,hg,?_⟩|refine⟨i,rfl,by omega,?_⟩|refine aC ?_ ?_<;>intro<;>try omega|refine z1_R1 ?_|(refine aK [] (cV) ?_)|fail);all_goals try (conv=>whnf)
   all_goals first
    |exact⟨rfl,Imp.bl ⟨fun h=>(by cases h),fun hr=>absurd hr (stop (by simp only [ints_len]at*;omega))⟩⟩
    |exact⟨i+1,[0,1],⟨by omega,cont (by simp only [ints_len]at*;omega)⟩,by omega,by(exact aL)⟩
  ·obtain rfl:i=ts.length:=by omega
   have hx:t=(ts++[t]).getD ts.length 0:=getD_last.symm
   have cV:=jVal_ok vs p q (t+1-t) h (by omega) (by omega)
   have cont:=cont t hx
   have stop:=stop t hx
   generalize val vs p q (t+1-t).toNat =V at*
   (repeat' (conv=>whnf);first|refine aC ?_ ?_<;>intro<;>try omega|refine z1_R1 ?_|(refine aK [] (cV) ?_)|fail);all_goals try (conv=>whnf)
   all_goals first
    |exact⟨rfl,Imp.bl ⟨fun h=>(by cases h),fun hr=>absurd hr (stop (by simp only [ints_len]at*;omega))⟩⟩
    |exact⟨ts.length+1,[0,1],⟨by omega,cont (by simp only [ints_len]at*;omega)⟩,by omega,by(exact aL)⟩
 ·(repeat' (conv=>whnf);first|refine aC ?_ ?_<;>intro<;>try omega|refine z1_R1 ?_|fail);all_goals try (conv=>whnf)
  exact⟨rfl,Imp.bl ⟨fun _ i hi=>hk i (by omega),fun _=>rfl⟩⟩
end
section
open Go.Sx Go.Cv Go.Gd
open Classical in
noncomputable def greG (vs:List Int) (p q s o c:Int):List Int×Int:=if¬ValidP vs p q then([],1)else if s<1∨1500<s∨o<0∨200<o∨c<0∨60<c then([],2)else(gre (val vs p.toNat q) s c.toNat [] o,0)
theorem gre_bd {V:Nat→Int} {s:Int} {n:Nat} {o:Int} (h0:0≤o) {ts:List Int} {t:Int} (g:GrC V s n o ts t):∀x∈ts,0≤x∧x≤t:=fun x hx=>by
 refine⟨by have:=g.bd hx;omega,?_⟩
 obtain⟨i,hi,rfl⟩:=List.getElem_of_mem hx
 have h1:=g.mono (ts.length-1) i (by omega) (by omega)
 have h2:=g.tk
 unfold lstT at h2
 rw [if_neg (by omega)]at h2
 rw [List.getD_eq_getElem?_getD,List.getElem?_eq_getElem hi]at h1
 exact Int.le_trans h1 h2
theorem z2_J3 {G H:Prop} (k:H) (h:H→G:=by first|exact fun r=>aS r|exact fun r=>aG r|exact fun r=>aD r|exact fun r=>aP_R1 r|exact fun r=>aI r|exact fun r=>aJ r):G:=h k
open Classical in
theorem Greedy_ok (vs:List Int) (p q s o c:Int):
  Ctr Tryz.prog 14 [crv vs p q,i64 s,i64 o,i64 c] [] (fun r o'=>o'=[]∧r= .tup [.psl 1 (ints (greG vs p q s o c).1),i64 (greG vs p q s o c).2]):=by
 refine Ctr.imp ?_
 refine fI 0 Tryz.func14 ?_
 by_cases hok:ValidP vs p q∧¬(s<1∨1500<s∨o<0∨200<o∨c<0∨60<c)
 ·obtain⟨hv,hr⟩:=hok
  unfold greG
  rw [if_neg (by simpa using hv),if_neg hr]
  obtain⟨p,rfl,vf⟩:=hv.vf
  obtain⟨c,rfl⟩:=Int.eq_ofNat_of_zero_le (show 0≤c by omega)
  rw [Int.toNat_natCast,Int.toNat_natCast]
  (repeat' (conv=>whnf);first|refine aC ?_ ?_<;>intro<;>try omega|refine z1_R1 ?_|(refine aK [] (curve_ok vs p q) ?_)|fail);all_goals try (conv=>whnf)
  ·exact absurd hv (by assumption)
  refine LoopOb.mk (Y:=List Int×Int) (st:=fun y=>⟨[(11,i64 y.2),(10, .vec 1),(4, .ptr 0 0),(1,i64 s),(3,i64 c)],[.box [.psl 1 (ints vs),i64 p,i64 q], .vec 1 (ints y.1)]⟩)
   (inv:=fun y=>gre (val vs p q) s c y.1 y.2=gre (val vs p q) s c [] o∧GrC (val vs p q) s c o y.1 y.2∧0≤y.2∧y.2≤381) (fun y=>grM c y.1 y.2) ([],o) [0,2] ⟨rfl, .zero,by dsimp only;omega,by dsimp only;omega⟩ (by(exact aL)) ?_
  rintro⟨ts,t⟩ ⟨he,hG,ht0,ht1⟩
  dsimp only at he hG ht0 ht1⊢
  have hl:=ints_len ts
  have hlc:=hG.l
  have hbd:=gre_bd (by omega) hG
  by_cases hlt:t≤380∧ts.length<c
  ·obtain⟨h1,h2⟩:=hlt
   have cR:=room_ok vs p q s ts t vf (by omega) (by omega) (by omega) hbd
   have e1:=gre_yes (V:=val vs p q) (s:=s) h1 h2
   have e2:=gre_no (V:=val vs p q) (s:=s) h1 h2
   have g1:=hG.snoc h1 h2
   have g2:=hG.next
   generalize rmP (val vs p q) s ts t=R at*
   (repeat' (conv=>whnf);first|refine aC ?_ ?_<;>intro<;>try omega|refine z1_R1 ?_|(refine aK [1] cR ?_)|fail);all_goals try (conv=>whnf)
   ·have hR:¬R:=by assumption
    exact⟨(ts,t+1),[0,1],⟨by rw [←he];exact(e2 hR).symm,g2 hR,by dsimp only;omega,by dsimp only;omega⟩,by simp only [grM];omega,by(exact aL)⟩
   ·have hR:R:=Classical.not_not.1 (by assumption)
    exact⟨(ts++[t],t),[0,3],⟨by rw [←he];exact(e1 hR).symm,g1 hR,ht0,by dsimp only;omega⟩,by simp only [grM,List.length_append,List.length_cons,List.length_nil];omega,by rw [show ints (ts++[t])=ints ts++[[i64 t]]by simp [ints]];(exact aL)⟩
  ·rw [←he,gre_end hlt]
   (repeat' (conv=>whnf);first|refine aC ?_ ?_<;>intro<;>try omega|refine z2_J3 ?_|fail);all_goals try (conv=>whnf)
   all_goals
    refine .mk [.fz 1] ?_
    (repeat' (conv=>whnf);first|refine aC ?_ ?_<;>intro<;>try omega|refine z1_R1 ?_|fail);all_goals try (conv=>whnf)
    exact⟨rfl,Imp.refl _⟩
 ·have hg:greG vs p q s o c=([],if ValidP vs p q then 2 else 1):=by
   unfold greG
   by_cases hv:ValidP vs p q
   ·rw [if_neg (by simpa using hv),if_pos (Classical.not_not.1 fun h=>hok ⟨hv,h⟩),if_pos hv]
   ·rw [if_pos hv,if_neg hv]
  rw [hg]
  (repeat' (conv=>whnf);first|refine AsgOb.nil ?_|refine aC ?_ ?_<;>intro<;>try omega|refine z1_R1 ?_|(refine aK [] (curve_ok vs p q) ?_)|fail);all_goals try (conv=>whnf)
  all_goals first
   |exact⟨rfl,Imp.tup ⟨Imp.nil _,by rw [if_neg (by assumption)];exact Imp.refl _,trivial⟩⟩
   |exact⟨rfl,Imp.tup ⟨Imp.nil _,by rw [if_pos (Classical.not_not.1 (by assumption))];exact Imp.refl _,trivial⟩⟩
   |exact absurd ⟨Classical.not_not.1 (by assumption),by omega⟩ hok
end
section
open Go.Sx Go.Np
theorem Word_ok (s:ByteArray) (hs:s.size≤9223372036854775807):Ctr Tryz.prog 95 [.str s] [] (fun r o=>o=[]∧r= .bp (WordP s)):=by
 refine Ctr.imp ?_
 refine fI 0 Tryz.func95 ?_
 (repeat' (conv=>whnf);first|refine aC ?_ ?_<;>intro<;>try omega|refine z1_R1 ?_|fail);all_goals try (conv=>whnf)
 ·exact⟨rfl,Imp.bl ⟨fun h=>(by cases h),fun h=>by have h1:=h.1;rename_i e;subst e;simp [ByteArray.size]at h1⟩⟩
 ·exact⟨rfl,Imp.bl ⟨fun h=>(by cases h),fun h=>by have h1:=h.2.1;omega⟩⟩
 have h0:=ba_ne ‹¬s=_›
 have e0:bt s 0=((bb s 0).toNat :Int):=rfl
 have hno:¬(97≤bt s 0∧bt s 0≤122)→¬WordP s:=fun h k=>h k.2.2.1
 refine⟨0,_,rfl,bbg h0,?_⟩
 (repeat' (conv=>whnf);first|refine aC ?_ ?_<;>intro<;>try omega|refine z1_R1 ?_|refine⟨0,_,rfl,bbg h0,?_⟩|fail);all_goals try (conv=>whnf)
 ·exact⟨rfl,Imp.bl ⟨fun h=>(by cases h),fun h=>absurd h (hno (by omega))⟩⟩
 ·exact⟨rfl,Imp.bl ⟨fun h=>(by cases h),fun h=>absurd h (hno (by omega))⟩⟩
 have hok0:okC (bt s 0):=by unfold okC;omega
 refine LoopOb.mk (Y:=Nat) (st:=fun i=>⟨[(3,i64 i),(2, .bl false),(0, .str s)],[]⟩)
  (inv:=fun i=>1≤i∧i≤s.size∧∀j,j<i→okC (bt s j)) (fun i=>s.size-i) 1 [] ⟨by omega,by omega,fun j hj=>by rw [show j=0 by omega];exact hok0⟩ (by(exact aL)) ?_
 rintro i ⟨hi1,hi2,hv⟩
 (repeat' (conv=>whnf);first|refine z1_R1 ?_|fail);all_goals try (conv=>whnf)
 refine CondOb.mk (fun hlt=>?_) (fun hlt=>?_)
 ·have hil:i<s.size:=by omega
  have e1:bt s i=((bb s i).toNat :Int):=rfl
  have hno2:¬okC (bt s i)→¬WordP s:=fun h k=>h (k.2.2.2 i hil)
  have hst:okC (bt s i)→∀j,j<i+1→okC (bt s j):=fun h j hj=>by
   by_cases e:j=i
   ·rw [e];exact h
   ·exact hv j (by omega)
  have hk:okC (bt s i)↔(bt s i=45∨(48≤bt s i∧bt s i≤57)∨(97≤bt s i∧bt s i≤122)):=Iff.rfl
  generalize okC (bt s i)=Q at*
  (repeat' (conv=>whnf);first|refine aC ?_ ?_<;>intro<;>try omega|refine z1_R1 ?_|refine⟨i,_,rfl,bbg hil,?_⟩|fail);all_goals try (conv=>whnf)
  all_goals first
   |exact⟨rfl,Imp.bl ⟨fun h=>(by cases h),fun h=>absurd h (hno2 (fun q=>by have:=hk.1 q;omega))⟩⟩
   |exact⟨i+1,[],⟨by omega,by omega,hst (hk.2 (by omega))⟩,by omega,by(exact aL)⟩
   |trace_state
 ·(repeat' (conv=>whnf);first|refine aC ?_ ?_<;>intro<;>try omega|refine z1_R1 ?_|fail);all_goals try (conv=>whnf)
  exact⟨rfl,Imp.bl ⟨fun _=>⟨by omega,by omega,by omega,fun j hj=>hv j (by omega)⟩,fun _=>rfl⟩⟩
theorem rWord_ok (s:ByteArray) (hs:s.size≤9223372036854775807):Ctr Tryz.prog 71 [.str s] [] (fun r o=>o=[]∧r= .bp (WordP s)):=by
 refine Ctr.imp ?_
 refine fI 0 Tryz.func71 ?_
 (repeat' (conv=>whnf);first|refine aC ?_ ?_<;>intro<;>try omega|refine z1_R1 ?_|fail);all_goals try (conv=>whnf)
 ·exact⟨rfl,Imp.bl ⟨fun h=>(by cases h),fun h=>by have h1:=h.1;omega⟩⟩
 ·exact⟨rfl,Imp.bl ⟨fun h=>(by cases h),fun h=>by have h1:=h.2.1;omega⟩⟩
 have h0:0<s.size:=by omega
 have e0:bt s 0=((bb s 0).toNat :Int):=rfl
 have hno:¬(97≤bt s 0∧bt s 0≤122)→¬WordP s:=fun h k=>h k.2.2.1
 refine⟨0,_,rfl,bbg h0,?_⟩
 (repeat' (conv=>whnf);first|refine aC ?_ ?_<;>intro<;>try omega|refine z1_R1 ?_|refine⟨0,_,rfl,bbg h0,?_⟩|fail);all_goals try (conv=>whnf)
 ·exact⟨rfl,Imp.bl ⟨fun h=>(by cases h),fun h=>absurd h (hno (by omega))⟩⟩
 ·exact⟨rfl,Imp.bl ⟨fun h=>(by cases h),fun h=>absurd h (hno (by omega))⟩⟩
 refine LoopOb.mk (Y:=Nat) (st:=fun i=>⟨[(3,i64 i),(0, .str s)],[]⟩)
  (inv:=fun i=>i≤s.size∧∀j,j<i→okC (bt s j)) (fun i=>s.size-i) 0 [] ⟨by omega,fun j hj=>by omega⟩ (by(exact aL)) ?_
 rintro i ⟨hi2,hv⟩
 (repeat' (conv=>whnf);first|refine z1_R1 ?_|fail);all_goals try (conv=>whnf)
 refine CondOb.mk (fun hlt=>?_) (fun hlt=>?_)
 ·have hil:i<s.size:=by omega
  have e1:bt s i=((bb s i).toNat :Int):=rfl
  have hno2:¬okC (bt s i)→¬WordP s:=fun h k=>h (k.2.2.2 i hil)
  have hst:okC (bt s i)→∀j,j<i+1→okC (bt s j):=fun h j hj=>by
   by_cases e:j=i
   ·rw [e];exact h
   ·exact hv j (by omega)
  have hk:okC (bt s i)↔(bt s i=45∨(48≤bt s i∧bt s i≤57)∨(97≤bt s i∧bt s i≤122)):=Iff.rfl
  generalize okC (bt s i)=Q at*
  (repeat' (conv=>whnf);first|refine aC ?_ ?_<;>intro<;>try omega|refine z1_R1 ?_|refine⟨i,_,rfl,bbg hil,?_⟩|fail);all_goals try (conv=>whnf)
  all_goals first
   |exact⟨rfl,Imp.bl ⟨fun h=>(by cases h),fun h=>absurd h (hno2 (fun q=>by have:=hk.1 q;omega))⟩⟩
   |exact⟨i+1,[],⟨by omega,hst (hk.2 (by omega))⟩,by omega,by(exact aL)⟩
   |trace_state
 ·(repeat' (conv=>whnf);first|refine aC ?_ ?_<;>intro<;>try omega|refine z1_R1 ?_|fail);all_goals try (conv=>whnf)
  exact⟨rfl,Imp.bl ⟨fun _=>⟨by omega,by omega,by omega,fun j hj=>hv j (by omega)⟩,fun _=>rfl⟩⟩
end
end Go.Proofs.YtjhmjiimpmmnhaaGreat
