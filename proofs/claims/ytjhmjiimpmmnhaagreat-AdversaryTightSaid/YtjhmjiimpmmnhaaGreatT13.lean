/- Lemmas of this seat. Conditions: as stated. -/
import Derived.Test.YtjhmjiimpmmnhaaGreatT11
import Derived.Test.YtjhmjiimpmmnhaaGreatT1
import Derived.Test.YtjhmjiimpmmnhaaGreatPl
import Derived.Test.YtjhmjiimpmmnhaaGreatTy
import Derived.Shelf.SlLaysF0
import Derived.Shelf.SlLaysC2
import Derived.Shelf.Lays
set_option linter.unusedVariables false
set_option linter.unusedSimpArgs false
set_option maxHeartbeats 2000000
set_option maxRecDepth 20000
namespace Go.Proofs.YtjhmjiimpmmnhaaGreat
section
open Go.Sx Go.Pk Go.Cv Go.St
theorem z1_T13 {G H:Prop} (k:H) (h:H→G:=by first|exact fun r=>aS r|exact fun r=>aG r|exact fun r=>aH r|exact fun r=>aP_T11 r|exact fun r=>aI r|exact fun r=>aJ r|exact fun r=>aW (.qs [0,1,2,3,4,5,6,7,8] (.l 9 [] (.qs [10] .nil) .no)) r|exact fun r=>aW (.qs [0,1,2,3,4,5,6,7,8,9,10,11,12,13,14] (.l 15 [] (.qs [16] (.l 17 [] .nil .no)) .no)) r|exact fun r=>aW (.qs [0,1,2,3,4,5,6,7,8] (.l 9 [] (.qs [10,11] .nil) .no)) r|exact fun r=>aW (.qs [0,1,2,3,4,5,6,7,8,9,10,11,12,13,14] (.l 15 [] (.qs [16] (.l 17 [] .nil .no)) .no)) r|exact fun r=>aW (.qs [0,1,2,3,4,5,6,7,8,9,10] (.l 11 [] (.qs [12,13] .nil) .no)) r):G:=h k
theorem symM_ok (g:Nat) (k:Pk→Int) (hc:CmpOK g k) (N:Nat):∀(P A B T:List Pk),A.length+B.length≤N→1≤A.length→1≤B.length→Srt k A→Srt k B→P.length+A.length+B.length+T.length≤1000000→
  Ctr Tryz.prog 99 [.vec 0,i64 P.length,i64 (P.length+A.length:Nat),i64 (P.length+A.length+B.length:Nat), .fn g []] [.vec 3 (pks (P++(A++(B++T))))] (fun r o=>o=[.vec 3 (pks (P++(srt k (A++B)++T)))]∧r= .tup []):=by
 induction N with
 |zero=>intro P A B T h1 h2;omega
 |succ N ih=>
 intro P A B T hN hA hB sA sB hl
 by_cases hA1:A.length=1
 ·obtain⟨x,rfl⟩:=List.length_eq_one_iff.1 hA1
  exact sym1_ok g k hc P B T x hB sB hl
 by_cases hB1:B.length=1
 ·obtain⟨y,rfl⟩:=List.length_eq_one_iff.1 hB1
  exact sym2_ok g k hc P A T y (by omega) sA hl
 obtain⟨h,hh⟩:∃h,(A.length+B.length)/2=h:=⟨_,rfl⟩
 refine fI 1 Tryz.func99 ?_
 have hlen:(pks (P++(A++(B++T)))).length =P.length+A.length+B.length+T.length:=by rw [pks_len];simp only [List.length_append];omega
 (repeat' (conv=>whnf);first|refine aC ?_ ?_<;>intro<;>try omega|refine z1_T13 ?_|refine And.intro (rfl:(1:Int)=1) ?_|fail);all_goals try (conv=>whnf)
 refine CutOb.cut (Y:=Unit) (st:=fun _=>⟨[(20,i64 (P.length+(h-B.length):Nat)),(21,i64 (P.length+min h A.length:Nat)),(18,i64 (P.length+h:Nat)),(19,i64 (2*P.length+h+A.length:Nat)),(0, .vec 0),(1,i64 P.length),(2,i64 (P.length+A.length:Nat)),(3,i64 (P.length+A.length+B.length:Nat)),(4, .fn g [])],[.vec 3 (pks (P++(A++(B++T))))]⟩) (inv:=fun _=>True) ?_ ?_
 ·(repeat' (conv=>whnf);first|refine aC ?_ ?_<;>intro<;>try omega|refine z1_T12 ?_|fail);all_goals try (conv=>whnf)
  all_goals exact⟨(),[0],trivial,by(exact aL)⟩
 rintro _ _
 (repeat' (conv=>whnf);first|refine aC ?_ ?_<;>intro<;>try omega|refine z1_T12 ?_|fail);all_goals try (conv=>whnf)
 refine LoopOb.mk (Y:=Nat×Nat) (st:=fun y=>⟨[(20,i64 (P.length+y.1:Nat)),(21,i64 (P.length+y.2:Nat)),(22,i64 (2*P.length+h+A.length-1:Nat)),(18,i64 (P.length+h:Nat)),(19,i64 (2*P.length+h+A.length:Nat)),(0, .vec 0),(1,i64 P.length),(2,i64 (P.length+A.length:Nat)),(3,i64 (P.length+A.length+B.length:Nat)),(4, .fn g [])],[.vec 3 (pks (P++(A++(B++T))))]⟩)
  (inv:=fun y=>(h-B.length≤y.1∧y.1≤y.2∧y.2≤h∧y.2≤A.length)∧(y.1=h-B.length∨k (A.getD (y.1-1) pk0)≤k (B.getD (h-y.1) pk0))∧(y.2=min h A.length∨k (B.getD (h-1-y.2) pk0)<k (A.getD y.2 pk0))) (fun y=>y.2-y.1) (h-B.length,min h A.length) [0]
  ⟨⟨Nat.le_refl _,by dsimp only;omega,by dsimp only;omega,by dsimp only;omega⟩, .inl rfl, .inl rfl⟩ (by dsimp only;(exact aL)) ?_
 rintro⟨s,r⟩ ⟨⟨hs1,hs2,hs3,hs4⟩,hlo,hhi⟩
 dsimp only at hs1 hs2 hs3 hs4 hlo hhi⊢
 (repeat' (conv=>whnf);first|refine z1_T12 ?_|fail);all_goals try (conv=>whnf)
 refine CondOb.mk (fun hlt=>?_) (fun hlt=>?_)
 ·obtain⟨c,hcd⟩:∃c,(s+r)/2=c:=⟨_,rfl⟩
  have ga:=pks_mid (Q:=P) (B:=A) (T:=B++T) (c:=c) (i:=P.length+c) (by omega) rfl
  have gb:=pks_mid (Q:=P++A) (B:=B) (T:=T) (c:=h-1-c) (i:=P.length+A.length+(h-1-c)) (by omega) (by rw [List.length_append])
  rw [List.append_assoc]at gb
  have hcc:=hc (B.getD (h-1-c) pk0) (A.getD c pk0)
  obtain⟨x,hx⟩:∃x,A.getD c pk0=x:=⟨_,rfl⟩
  obtain⟨y,hy⟩:∃y,B.getD (h-1-c) pk0=y:=⟨_,rfl⟩
  rw [hx]at ga hcc
  rw [hy]at gb hcc
  have hup:¬k y<k x→k (A.getD (c+1-1) pk0)≤k (B.getD (h-(c+1)) pk0):=fun h1=>by
   rw [Nat.add_sub_cancel,show h-(c+1)=h-1-c by omega,hx,hy];omega
  have hdn:k y<k x→k (B.getD (h-1-c) pk0)<k (A.getD c pk0):=fun h1=>by rw [hx,hy];exact h1
  (repeat' (conv=>whnf);first|refine⟨_,ga,?_⟩|refine⟨_,gb,?_⟩|refine⟨P.length+c,by omega,by omega,?_⟩|refine⟨P.length+A.length+(h-1-c),by omega,by omega,?_⟩|refine aC ?_ ?_<;>intro<;>try omega|refine z1_T12 ?_|refine And.intro (rfl:(1:Int)=1) ?_|(refine aM [] hcc rfl rfl ?_;rintro _ _ ⟨c',hck,rfl,rfl⟩)|fail);all_goals try (conv=>whnf)
  ·exact⟨(c+1,r),[0],⟨⟨by dsimp only;omega,by dsimp only;omega,hs3,hs4⟩, .inr (hup fun h=>absurd (hck.2 h) (by assumption)),hhi⟩,by dsimp only;omega,by dsimp only;(exact aL)⟩
  ·exact⟨(s,c),[0],⟨⟨hs1,by dsimp only;omega,by dsimp only;omega,by dsimp only;omega⟩,hlo, .inr (hdn (hck.1 (Classical.not_not.1 (by assumption))))⟩,by dsimp only;omega,by dsimp only;(exact aL)⟩
 ·have e:r=s:=by omega
  subst e
  have hq:=quart_of (k:=k) pk0 sA sB hs1 hs3 hs4 hlo (by
   rcases hhi with e|e
   ·by_cases e2:r=A.length
    ·exact .inl e2
    ·exact .inr (.inl (by omega))
   ·exact .inr (.inr e))
  have l1:(A.take r).length =r:=by rw [List.length_take];omega
  have l2:(A.drop r).length =A.length-r:=List.length_drop
  have l3:(B.take (h-r)).length =h-r:=by rw [List.length_take];omega
  have l4:(B.drop (h-r)).length =B.length-(h-r):=List.length_drop
  have eA:=List.take_append_drop r A
  have eB:=List.take_append_drop (h-r) B
  generalize A.take r=A1 at*
  generalize A.drop r=A2 at*
  generalize B.take (h-r)=B1 at*
  generalize B.drop (h-r)=B2 at*
  clear hlo hhi hlt
  have hqe:=hq.eq
  have lS:(srt k (A1++B1)).length =h:=by rw [srt_len,List.length_append];omega
  have d0:P++(A++(B++T))=P++(A1++(A2++(B1++(B2++T)))):=by rw [←eA,←eB];simp only [List.append_assoc]
  rw [d0]
  (repeat' (conv=>whnf);first|refine aC ?_ ?_<;>intro<;>try omega|refine z1_T13 ?_|fail);all_goals try (conv=>whnf)
  refine CutOb.cut (Y:=Unit) (st:=fun _=>⟨[(20,i64 (P.length+r:Nat)),(24,i64 (P.length+A.length+(h-r):Nat)),(18,i64 (P.length+h:Nat)),(0, .vec 0),(1,i64 P.length),(2,i64 (P.length+A.length:Nat)),(3,i64 (P.length+A.length+B.length:Nat)),(4, .fn g [])],[.vec 3 (pks (P++(A1++(B1++(A2++(B2++T))))))]⟩) (inv:=fun _=>True) ?_ ?_
  ·by_cases hr:1≤A2.length∧1≤B1.length
   ·have cR:=rot_ok g (P++A1) A2 B1 (B2++T) hr.1 hr.2 (by simp only [List.length_append];omega)
    simp only [List.append_assoc]at cR
    have lP:(P++A1).length =P.length+r:=by rw [List.length_append,l1]
    rw [lP]at cR
    (repeat' (conv=>whnf);first|refine aC ?_ ?_<;>intro<;>try omega|refine z1_T12 ?_|fail);all_goals try (conv=>whnf)
    refine CallOb.mk [0] cR rfl ⟨Imp.refl _,Imp.refl _,Imp.num (by omega),Imp.num (by omega),Imp.refl _,trivial⟩ rfl rfl ?_
    rintro _ _ ⟨rfl,rfl⟩
    (repeat' (conv=>whnf);first|refine aC ?_ ?_<;>intro<;>try omega|refine z1_T12 ?_|fail);all_goals try (conv=>whnf)
    exact⟨(),[0],trivial,by(exact aL)⟩
   ·have e:A2++(B1++(B2++T))=B1++(A2++(B2++T)):=by
     by_cases h1:A2.length=0
     ·rw [List.eq_nil_of_length_eq_zero h1];rfl
     ·rw [List.eq_nil_of_length_eq_zero (l:=B1) (by omega)];rfl
    rw [e]
    (repeat' (conv=>whnf);first|refine aC ?_ ?_<;>intro<;>try omega|refine z1_T12 ?_|fail);all_goals try (conv=>whnf)
    all_goals exact⟨(),[0],trivial,by(exact aL)⟩
  rintro _ _
  (repeat' (conv=>whnf);first|refine aC ?_ ?_<;>intro<;>try omega|refine z1_T13 ?_|fail);all_goals try (conv=>whnf)
  refine CutOb.cut (Y:=Unit) (st:=fun _=>⟨[(24,i64 (P.length+A.length+(h-r):Nat)),(18,i64 (P.length+h:Nat)),(0, .vec 0),(3,i64 (P.length+A.length+B.length:Nat)),(4, .fn g [])],[.vec 3 (pks (P++(srt k (A1++B1)++(A2++(B2++T)))))]⟩) (inv:=fun _=>True) ?_ ?_
  ·by_cases hr:1≤A1.length∧1≤B1.length
   ·have cR:=ih P A1 B1 (A2++(B2++T)) (by omega) hr.1 hr.2 (srt_app.1 hq.a).1 (srt_app.1 hq.b).1 (by simp only [List.length_append];omega)
    (repeat' (conv=>whnf);first|refine aC ?_ ?_<;>intro<;>try omega|refine z1_T12 ?_|fail);all_goals try (conv=>whnf)
    refine CallOb.mk [0] cR rfl ⟨Imp.refl _,Imp.refl _,Imp.num (by omega),Imp.num (by omega),Imp.refl _,trivial⟩ rfl rfl ?_
    rintro _ _ ⟨rfl,rfl⟩
    (repeat' (conv=>whnf);first|refine aC ?_ ?_<;>intro<;>try omega|refine z1_T12 ?_|fail);all_goals try (conv=>whnf)
    exact⟨(),[0],trivial,by(exact aL)⟩
   ·have e:srt k (A1++B1)=A1++B1:=by
     by_cases h1:A1.length=0
     ·rw [List.eq_nil_of_length_eq_zero h1,List.nil_append,srt_self (srt_app.1 hq.b).1]
     ·rw [List.eq_nil_of_length_eq_zero (l:=B1) (by omega),List.append_nil,srt_self (srt_app.1 hq.a).1]
    rw [e,List.append_assoc]
    (repeat' (conv=>whnf);first|refine aC ?_ ?_<;>intro<;>try omega|refine z1_T12 ?_|fail);all_goals try (conv=>whnf)
    all_goals exact⟨(),[0],trivial,by(exact aL)⟩
  rintro _ _
  have eF:P++(srt k (A++B)++T)=P++(srt k (A1++B1)++(srt k (A2++B2)++T)):=by rw [←eA,←eB,←hqe];simp only [List.append_assoc]
  rw [eF]
  by_cases hr:1≤A2.length∧1≤B2.length
  ·have cR:=ih (P++srt k (A1++B1)) A2 B2 T (by omega) hr.1 hr.2 (srt_app.1 hq.a).2.1 (srt_app.1 hq.b).2.1 (by rw [List.length_append];omega)
   have lP:(P++srt k (A1++B1)).length =P.length+h:=by rw [List.length_append,lS]
   rw [lP]at cR
   simp only [List.append_assoc]at cR
   (repeat' (conv=>whnf);first|refine aC ?_ ?_<;>intro<;>try omega|refine z1_T12 ?_|fail);all_goals try (conv=>whnf)
   refine CallOb.mk [0] cR rfl ⟨Imp.refl _,Imp.refl _,Imp.num (by omega),Imp.num (by omega),Imp.refl _,trivial⟩ rfl rfl ?_
   rintro _ _ ⟨rfl,rfl⟩
   (repeat' (conv=>whnf);first|refine aC ?_ ?_<;>intro<;>try omega|refine z1_T12 ?_|fail);all_goals try (conv=>whnf)
   exact⟨rfl,rfl⟩
  ·have e:srt k (A2++B2)=A2++B2:=by
    by_cases h1:A2.length=0
    ·rw [List.eq_nil_of_length_eq_zero h1,List.nil_append,srt_self (srt_app.1 hq.b).2.1]
    ·rw [List.eq_nil_of_length_eq_zero (l:=B2) (by omega),List.append_nil,srt_self (srt_app.1 hq.a).2.1]
   rw [e,List.append_assoc A2]
   (repeat' (conv=>whnf);first|refine aC ?_ ?_<;>intro<;>try omega|refine z1_T12 ?_|fail);all_goals try (conv=>whnf)
   all_goals exact⟨rfl,rfl⟩
end
section
open Go.Sx Go.Pk Go.Cv Go.St
theorem StableN_ok (g:Nat) (k:Pk→Int) (hc:CmpOK g k) (l:List Pk) (hl:l.length≤100000):
  Ctr Tryz.prog 69 [.vec 0,i64 l.length, .fn g []] [.vec 3 (pks l)] (fun r o=>o=[.vec 3 (pks (srt k l))]∧r= .tup []):=by
 refine fI 1 Tryz.func69 ?_
 (repeat' (conv=>whnf);first|refine aC ?_ ?_<;>intro<;>try omega|refine z2_T11 ?_|fail);all_goals try (conv=>whnf)
 refine LoopOb.mk (Y:=List Pk×List Pk) (st:=fun y=>⟨[(8,i64 (y.1.length+20:Nat)),(7,i64 y.1.length),(6,i64 20),(0, .vec 0),(1,i64 l.length),(2, .fn g [])],[.vec 3 (pks (y.1++y.2))]⟩)
  (inv:=fun y=>(y.1.length+y.2.length=l.length)∧y.1++sb k 20 y.2=sb k 20 l) (fun y=>y.2.length) ([],l) [0] ⟨by simp,rfl⟩ (by dsimp only;(exact aL)) ?_
 rintro⟨d,t⟩ ⟨hlen,he⟩
 dsimp only at hlen he⊢
 (repeat' (conv=>whnf);first|refine z2_T11 ?_|fail);all_goals try (conv=>whnf)
 refine CondOb.mk (fun hlt=>?_) (fun hlt=>?_)
 ·have h20:20≤t.length:=by omega
  have l1:(t.take 20).length =20:=by rw [List.length_take];omega
  have l2:(t.drop 20).length =t.length-20:=List.length_drop
  have hI:=insSort_ok g k hc d (t.take 20) (t.drop 20) (by omega)
  rw [List.take_append_drop,l1]at hI
  have e2:d++(srt k (t.take 20)++t.drop 20)=(d++srt k (t.take 20))++t.drop 20:=by rw [List.append_assoc]
  rw [e2]at hI
  have ls:(d++srt k (t.take 20)).length =d.length+20:=by rw [List.length_append,srt_len,l1]
  rw [sb_ge (by omega) h20,←List.append_assoc]at he
  generalize d++srt k (t.take 20)=d' at*
  generalize t.drop 20=t' at*
  (repeat' (conv=>whnf);first|refine aC ?_ ?_<;>intro<;>try omega|refine z2_T11 ?_|(refine aK [0] hI ?_)|fail);all_goals try (conv=>whnf)
  exact⟨(d',t'),[0],⟨by dsimp only;omega,he⟩,by dsimp only;omega,by dsimp only;(exact aL)⟩
 ·have hI:=insSort_ok g k hc d t [] (by simp only [List.length_nil];omega)
  rw [sb_small (l:=t) (by omega)]at he
  rw [List.append_nil,List.append_nil,he,hlen]at hI
  (repeat' (conv=>whnf);first|refine aC ?_ ?_<;>intro<;>try omega|refine z2_T11 ?_|(refine aK [0] hI ?_)|fail);all_goals try (conv=>whnf)
  refine LoopOb.mk (Y:=Nat) (st:=fun s=>⟨[(6,i64 s),(0, .vec 0),(1,i64 l.length),(2, .fn g [])],[.vec 3 (pks (sb k s l))]⟩) (inv:=fun s=>20≤s∧s≤200000) (fun s=>l.length-s) 20 [0] ⟨by omega,by omega⟩ (by(exact aL)) ?_
  clear hI he hlen hlt
  intro s hs
  (repeat' (conv=>whnf);first|refine z2_T11 ?_|fail);all_goals try (conv=>whnf)
  refine CondOb.mk (fun hlt=>?_) (fun hlt=>?_)
  ·(repeat' (conv=>whnf);first|refine aC ?_ ?_<;>intro<;>try omega|refine z2_T11 ?_|fail);all_goals try (conv=>whnf)
   refine LoopOb.mk (Y:=List Pk×List Pk) (st:=fun y=>⟨[(8,i64 (y.1.length+2*s:Nat)),(7,i64 y.1.length),(6,i64 s),(0, .vec 0),(1,i64 l.length),(2, .fn g [])],[.vec 3 (pks (y.1++sb k s y.2))]⟩)
    (inv:=fun y=>(y.1.length+y.2.length=l.length)∧y.1++sb k (2*s) y.2=sb k (2*s) l) (fun y=>y.2.length) ([],l) [0] ⟨by simp,rfl⟩ (by dsimp only [List.length_nil,List.nil_append];(exact aL)) ?_
   rintro⟨d,t⟩ ⟨hlen,he⟩
   dsimp only at hlen he⊢
   (repeat' (conv=>whnf);first|refine z2_T11 ?_|fail);all_goals try (conv=>whnf)
   refine CondOb.mk (fun hl2=>?_) (fun hl2=>?_)
   ·have h2s:2*s≤t.length:=by omega
    obtain⟨e1,e2⟩:=sb_two (k:=k) (by omega) h2s
    have l1:(srt k (t.take s)).length =s:=by rw [srt_len,List.length_take];omega
    have l2:(srt k ((t.drop s).take s)).length =s:=by rw [srt_len,List.length_take,List.length_drop];omega
    have l3:(t.drop (2*s)).length =t.length-2*s:=List.length_drop
    have l4:=sb_len (k:=k) (s:=s) (by omega) (t.drop (2*s))
    have hM:=symM_ok g k hc (2*s) d (srt k (t.take s)) (srt k ((t.drop s).take s)) (sb k s (t.drop (2*s))) (by omega) (by omega) (by omega) (srt_sorted _ _) (srt_sorted _ _) (by omega)
    have ls:(d++srt k (srt k (t.take s)++srt k ((t.drop s).take s))).length =d.length+2*s:=by rw [List.length_append,srt_len,List.length_append];omega
    rw [l1,l2,←List.append_assoc d (srt k (srt k (t.take s)++srt k ((t.drop s).take s)))]at hM
    rw [e2,←List.append_assoc]at he
    rw [e1]
    generalize d++srt k (srt k (t.take s)++srt k ((t.drop s).take s))=d' at*
    generalize srt k (t.take s)=A at*
    generalize srt k ((t.drop s).take s)=B at*
    generalize t.drop (2*s)=t' at*
    (repeat' (conv=>whnf);first|refine aC ?_ ?_<;>intro<;>try omega|refine z2_T11 ?_|(refine CallOb.mk [0] hM rfl ⟨Imp.refl _,Imp.refl _,Imp.num (by omega),Imp.num (by omega),Imp.refl _,trivial⟩ rfl rfl ?_;rintro _ _ ⟨rfl,rfl⟩)|fail);all_goals try (conv=>whnf)
    exact⟨(d',t'),[0],⟨by dsimp only;omega,he⟩,by dsimp only;omega,by dsimp only;(exact aL)⟩
   ·by_cases hm:s<t.length
    ·obtain⟨e1,e2⟩:=sb_tail (k:=k) (by omega) hm (by omega)
     have l1:(srt k (t.take s)).length =s:=by rw [srt_len,List.length_take];omega
     have l2:(srt k (t.drop s)).length =t.length-s:=by rw [srt_len,List.length_drop]
     have hM:=symM_ok g k hc (2*s) d (srt k (t.take s)) (srt k (t.drop s)) [] (by omega) (by omega) (by omega) (srt_sorted _ _) (srt_sorted _ _) (by simp only [List.length_nil];omega)
     rw [l1,l2,List.append_nil,List.append_nil,←e2,←e1,he]at hM
     (repeat' (conv=>whnf);first|refine aC ?_ ?_<;>intro<;>try omega|refine z2_T11 ?_|(refine CallOb.mk [0] hM rfl ⟨Imp.refl _,Imp.refl _,Imp.num (by omega),Imp.num (by omega),Imp.refl _,trivial⟩ rfl rfl ?_;rintro _ _ ⟨rfl,rfl⟩)|fail);all_goals try (conv=>whnf)
     exact⟨2*s,[0],⟨by omega,by omega⟩,by omega,by(exact aL)⟩
    ·rw [sb_last (by omega),he]
     (repeat' (conv=>whnf);first|refine aC ?_ ?_<;>intro<;>try omega|refine z2_T11 ?_|fail);all_goals try (conv=>whnf)
     exact⟨2*s,[0],⟨by omega,by omega⟩,by omega,by(exact aL)⟩
  ·rw [sb_small (by omega)]
   (repeat' (conv=>whnf);first|refine aC ?_ ?_<;>intro<;>try omega|refine z2_T11 ?_|fail);all_goals try (conv=>whnf)
   exact⟨rfl,rfl⟩
theorem SortStableN_ok (g:Nat) (k:Pk→Int) (hc:CmpOK g k) (l:List Pk) (hl:l.length≤100000):
  Ctr Tryz.prog 46 [.vec 0, .fn g []] [.vec 3 (pks l)] (fun r o=>o=[.vec 3 (pks (srt k l))]∧r= .tup []):=by
 refine fI 1 Tryz.func46 ?_
 have hpl:=pks_len l
 have cS:=StableN_ok g k hc l hl
 (repeat' (conv=>whnf);first|refine aC ?_ ?_<;>intro<;>try omega|refine z2_T11 ?_|(refine CallOb.mk [0] cS rfl ⟨Imp.refl _,Imp.num (by omega),Imp.refl _,trivial⟩ rfl rfl ?_;rintro _ _ ⟨rfl,rfl⟩)|fail);all_goals try (conv=>whnf)
 exact⟨rfl,rfl⟩
end
section
open Go.Shelf
def sortW_ren:Go.Shelf.Ren:=⟨fun|6=>125|15=>158|14=>157|28=>206|29=>207|20=>198|21=>199|22=>200|23=>201|24=>202|25=>203|26=>204|27=>205|46=>216|47=>217|48=>218|49=>219|50=>220|57=>224|n=>n,fun|22=>195|24=>197|25=>200|3=>3|39=>163|0=>0|53=>189|55=>192|4=>4|46=>259|45=>258|50=>78|5=>5|9=>9|66=>270|70=>274|76=>278|77=>254|n=>n,fun|n=>n⟩
theorem sortW:Go.Proofs.SlLaysF0.n6 Tryz.prog sortW_ren:={
 mixed:=by kernel_rfl
 f6:=⟨Tryz.f125.name,by decide,Tryz.func125.trans (congrArg some (by kernel_rfl))⟩
 f14:=⟨Tryz.f157.name,by decide,Tryz.func157.trans (congrArg some (by kernel_rfl))⟩
 f15:=Tryz.func158.trans (congrArg some (by kernel_rfl))
 f20:=⟨Tryz.f198.name,by decide,Tryz.func198.trans (congrArg some (by kernel_rfl))⟩
 f21:=⟨Tryz.f199.name,by decide,Tryz.func199.trans (congrArg some (by kernel_rfl))⟩
 f22:=⟨Tryz.f200.name,by decide,Tryz.func200.trans (congrArg some (by kernel_rfl))⟩
 f23:=⟨Tryz.f201.name,by decide,Tryz.func201.trans (congrArg some (by kernel_rfl))⟩
 f24:=⟨Tryz.f202.name,by decide,Tryz.func202.trans (congrArg some (by kernel_rfl))⟩
 f25:=⟨Tryz.f203.name,by decide,Tryz.func203.trans (congrArg some (by kernel_rfl))⟩
 f26:=⟨Tryz.f204.name,by decide,Tryz.func204.trans (congrArg some (by kernel_rfl))⟩
 f27:=⟨Tryz.f205.name,by decide,Tryz.func205.trans (congrArg some (by kernel_rfl))⟩
 f28:=Tryz.func206.trans (congrArg some (by kernel_rfl))
 f29:=Tryz.func207.trans (congrArg some (by kernel_rfl))
 f46:=⟨Tryz.f216.name,by decide,Tryz.func216.trans (congrArg some (by kernel_rfl))⟩
 f47:=Tryz.func217.trans (congrArg some (by kernel_rfl))
 f48:=Tryz.func218.trans (congrArg some (by kernel_rfl))
 f49:=⟨Tryz.f219.name,by decide,Tryz.func219.trans (congrArg some (by kernel_rfl))⟩
 f50:=⟨Tryz.f220.name,by decide,Tryz.func220.trans (congrArg some (by kernel_rfl))⟩
 f57:=⟨Tryz.f224.name,by decide,Tryz.func224.trans (congrArg some (by kernel_rfl))⟩
 t0:=Tryz.underlying0
 a0:=Tryz.isAgg0
 z0:=Tryz.sizeOf0
 v0:=Tryz.zeroValue0
 t3:=Tryz.underlying3
 a3:=Tryz.isAgg3
 z3:=Tryz.sizeOf3
 v3:=Tryz.zeroValue3
 t4:=Tryz.underlying4
 a4:=Tryz.isAgg4
 z4:=Tryz.sizeOf4
 v4:=Tryz.zeroValue4
 t5:=Tryz.underlying5
 a5:=Tryz.isAgg5
 z5:=Tryz.sizeOf5
 v5:=Tryz.zeroValue5
 t9:=Tryz.underlying9
 a9:=Tryz.isAgg9
 z9:=Tryz.sizeOf9
 v9:=Tryz.zeroValue9
 t22:=Tryz.underlying195
 a22:=Tryz.isAgg195
 z22:=Tryz.sizeOf195
 v22:=Tryz.zeroValue195
 t25:=Tryz.underlying200
 a25:=Tryz.isAgg200
 z25:=Tryz.sizeOf200
 v25:=Tryz.zeroValue200
 t39:=Tryz.underlying163
 a39:=Tryz.isAgg163
 z39:=Tryz.sizeOf163
 v39:=Tryz.zeroValue163
 t45:=Tryz.underlying258
 a45:=Tryz.isAgg258
 z45:=Tryz.sizeOf258
 v45:=Tryz.zeroValue258
 t46:=Tryz.underlying259
 a46:=Tryz.isAgg259
 z46:=Tryz.sizeOf259
 v46:=Tryz.zeroValue259
 t50:=Tryz.underlying78
 a50:=Tryz.isAgg78
 z50:=Tryz.sizeOf78
 v50:=Tryz.zeroValue78
 t53:=Tryz.underlying189
 a53:=Tryz.isAgg189
 z53:=Tryz.sizeOf189
 v53:=Tryz.zeroValue189
 t55:=Tryz.underlying192
 a55:=Tryz.isAgg192
 z55:=Tryz.sizeOf192
 v55:=Tryz.zeroValue192
 t66:=Tryz.underlying270
 a66:=Tryz.isAgg270
 z66:=Tryz.sizeOf270
 v66:=Tryz.zeroValue270
 t70:=Tryz.underlying274
 a70:=Tryz.isAgg274
 z70:=Tryz.sizeOf274
 v70:=Tryz.zeroValue274
 t76:=Tryz.underlying278
 a76:=Tryz.isAgg278
 z76:=Tryz.sizeOf278
 v76:=Tryz.zeroValue278
 t77:=Tryz.underlying254
 a77:=Tryz.isAgg254
 z77:=Tryz.sizeOf254
 v77:=Tryz.zeroValue254}
def bitsMul_ren:Go.Shelf.Ren:=⟨fun|212=>102|263=>122|264=>123|n=>n,fun|46=>163|51=>189|146=>190|53=>192|148=>193|n=>n,fun|n=>n⟩
theorem bitsMul:Go.Proofs.Lays.n212 Tryz.prog bitsMul_ren:={
 mixed:=by kernel_rfl
 f212:=Tryz.func102.trans (congrArg some (by kernel_rfl))
 f263:=Tryz.func122.trans (congrArg some (by kernel_rfl))
 f264:=Tryz.func123.trans (congrArg some (by kernel_rfl))
 t46:=Tryz.underlying163
 a46:=Tryz.isAgg163
 z46:=Tryz.sizeOf163
 v46:=Tryz.zeroValue163
 t51:=Tryz.underlying189
 a51:=Tryz.isAgg189
 z51:=Tryz.sizeOf189
 v51:=Tryz.zeroValue189
 t53:=Tryz.underlying192
 a53:=Tryz.isAgg192
 z53:=Tryz.sizeOf192
 v53:=Tryz.zeroValue192
 t146:=Tryz.underlying190
 a146:=Tryz.isAgg190
 z146:=Tryz.sizeOf190
 v146:=Tryz.zeroValue190
 t148:=Tryz.underlying193
 a148:=Tryz.isAgg193
 z148:=Tryz.sizeOf193
 v148:=Tryz.zeroValue193}
end
end Go.Proofs.YtjhmjiimpmmnhaaGreat
