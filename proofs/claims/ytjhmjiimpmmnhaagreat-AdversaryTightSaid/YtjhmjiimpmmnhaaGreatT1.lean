/- Lemmas of this seat. Conditions: as stated. -/
import Derived.Test.YtjhmjiimpmmnhaaGreatTy
import Derived.Test.YtjhmjiimpmmnhaaGreatSxR
import Derived.Test.YtjhmjiimpmmnhaaGreatPl
set_option linter.unusedVariables false
set_option linter.unusedSimpArgs false
set_option maxHeartbeats 2000000
set_option maxRecDepth 4000
namespace Go.Proofs.YtjhmjiimpmmnhaaGreat
section
open Go.Sx Go.Pk
abbrev pkw (x:Pk):List SV:=[i64 x.f,i64 x.t,i64 x.s]
abbrev pks (l:List Pk):List (List SV):=l.map pkw
theorem pks_len (l:List Pk):(pks l).length =l.length:=by simp [pks]
theorem pks_get {l:List Pk} {j:Nat} (h:j<l.length):(pks l)[j]? =some (pkw (l.getD j pk0)):=by
 simp [pks,List.getElem?_map,List.getElem?_eq_getElem h,List.getD_eq_getElem?_getD]
theorem aP_T1 {A B K:Prop} (k:K) (a:A:=by(simp only [zA,zT,zD,zC,zN,ints_len,zR,Go.Cv.vals_len];omega)) (b:B:=by(simp only [zA,zT,zD,zC,zN,ints_len,zR,Go.Cv.vals_len];omega)):(A∧B)∧K:=⟨⟨a,b⟩,k⟩
theorem z2_T1 {G H:Prop} (k:H) (h:H→G:=by first|exact fun r=>aS r|exact fun r=>aG r|exact fun r=>aD r|exact fun r=>aH r|exact fun r=>aP_T1 r|exact fun r=>aI r|exact fun r=>aJ r):G:=h k
theorem z1_T1 {G H:Prop} (k:H) (h:H→G:=by first|exact fun r=>aS r|exact fun r=>aG r|exact fun r=>aD r|exact fun r=>aP_T1 r|exact fun r=>aI r|exact fun r=>aJ r):G:=h k
theorem of_ok (p:List Pk) (flow:Int):Ctr Tryz.prog 211 [.psl 3 (pks p),i64 flow] [] (fun r o=>o=[]∧r= .fn 221 [.pptr [.psl 3 (pks p)], .pptr [i64 flow]]):=by
 refine fI 0 Tryz.func211 ?_
 (repeat' (conv=>whnf);first|refine aC ?_ ?_<;>intro _|refine z1_T1 ?_|fail);all_goals try (conv=>whnf)
 refine .mk [.fb 0, .fb 1] ?_
 (repeat' (conv=>whnf);first|refine aC ?_ ?_<;>intro _|refine z2_T1 ?_|fail);all_goals try (conv=>whnf)
 exact⟨rfl,rfl⟩
abbrev rnd (x:Nat×Pk):List SV:=[i64 x.1, .agg (pkw x.2)]
theorem of1B (Y:YP) (hm:Y.m=2) (p:List Pk) (hp:p.length≤1000000) (flow t:Int) (f:Nat→Int)
  (hY:∀j x,(selN p flow p.length)[j]? =some x→CtrY Tryz.prog Y (rnd x) [.box [i64 t], .box [i64 (f j)]] (fun v o'=>v= .bl true∧o'=[.box [i64 t], .box [i64 (f (j+1))]])):
  CtrL Tryz.prog Y 221 [.raw (yv Y.L), .pptr [.psl 3 (pks p)], .pptr [i64 flow]] [.box [i64 t], .box [i64 (f 0)]] (fun _ o=>o=[.box [i64 t], .box [i64 (f (selN p flow p.length).length)]]):=by
 refine fn_introY (E:=env 2) tys_ok rfl rfl rfl Tryz.func221 (by kernel_rfl) rfl (by kernel_rfl) ?_
 have hpl:=pks_len p
 (repeat' (conv=>whnf);first|refine aC ?_ ?_<;>intro<;>try omega|refine z2_T1 ?_|fail);all_goals try (conv=>whnf)
 refine LoopOb.mk (Y:=Nat) (st:=fun i=>⟨[(8,i64 i),(7,i64 (pks p).length),(6, .psl 3 (pks p)),(0, .raw (yv Y.L)),(1, .pptr [.psl 3 (pks p)]),(2, .pptr [i64 flow])],[.box [i64 t], .box [i64 (f (selN p flow i).length)]]⟩)
  (inv:=fun i=>i≤p.length) (fun i=>p.length-i) 0 [0,1] (by omega) (by(exact aL)) ?_
 intro i hi
 (repeat' (conv=>whnf);first|refine z2_T1 ?_|fail);all_goals try (conv=>whnf)
 refine CondOb.mk (fun hlt=>?_) (fun hlt=>?_)
 ·have hil:i<p.length:=by omega
  have hg:=pks_get hil
  have hat:=fun h=>hY _ _ (selN_at hil h)
  obtain⟨hs1,hs2⟩:=selN_step p flow i
  have hl1:sel flow (p.getD i pk0)→(selN p flow (i+1)).length =(selN p flow i).length +1:=fun h=>by rw [hs1 h,List.length_append];rfl
  unfold sel at hs1 hs2 hat hl1
  generalize p.getD i pk0=x at*
  (repeat' (conv=>whnf);first|refine⟨i,_,rfl,hg,?_⟩|refine aC ?_ ?_<;>intro<;>try omega|refine z2_T1 ?_|refine YOb.mk rfl ?_|(refine YieldOb.mk 2 hm [0,1] (hat (by omega)) rfl (ImpL.refl _) rfl rfl rfl ?_;rintro _ _ ⟨rfl,rfl⟩)|fail);all_goals try (conv=>whnf)
  all_goals first
   |exact⟨i+1,[0,1],by omega,by omega,by rw [hs2 (by omega)];(exact aL)⟩
   |exact⟨i+1,[0,1],by omega,by omega,by rw [hl1 (by omega)];(exact aL)⟩
   |trace_state
 ·have e:i=p.length:=by omega
  subst e
  (repeat' (conv=>whnf);first|refine aC ?_ ?_<;>intro<;>try omega|refine z2_T1 ?_|fail);all_goals try (conv=>whnf)
theorem Bytes_ok (p:List Pk) (hp:p.length≤1000000) (hsm:Sml p) (flow t:Int):Ctr Tryz.prog 174 [.psl 3 (pks p),i64 flow,i64 t] [] (fun r o=>o=[]∧r=i64 (bys p flow t)):=by
 refine fn_introR (E:=env 0) tys_ok rfl rfl rfl Tryz.func174 (by kernel_rfl) rfl (by kernel_rfl) ?_
 (repeat' (conv=>whnf);first|refine aC ?_ ?_<;>intro<;>try omega|refine z2_T1 ?_|(refine aK [] (of_ok p flow) ?_)|fail);all_goals try (conv=>whnf)
 refine RangeOb.mk 2 ((selN p flow p.length).map rnd) (fun j o=>o=[.box [i64 t], .box [i64 (bysL t ((selN p flow p.length).take j))]]) (fun j o=>o=[.box [i64 t], .box [i64 (bysL t ((selN p flow p.length).take j))]]) (fun j o=>o=[.box [i64 t], .box [i64 (bysL t ((selN p flow p.length).take j))]]) (by kernel_rfl) (fun r hr=>by obtain⟨x,_,rfl⟩:=List.mem_map.1 hr;rfl) ?_ ?_ ?_
 ·intro Y hm hY
  rw [List.length_map]
  exact of1B Y hm p hp flow t (fun j=>bysL t ((selN p flow p.length).take j)) fun j x hx=>hY j _ (rnd x) rfl (by rw [List.getElem?_map,hx];rfl)
 ·rintro j o r rfl hr
  rw [List.getElem?_map]at hr
  cases hx:(selN p flow p.length)[j]? with
  |none=>rw [hx]at hr;cases hr
  |some x=>
   rw [hx]at hr;cases hr
   have hb:=bysL_take t hx
   have hbd:=sel_bd (flow:=flow) (t:=t) hsm j
   have hxs:=hsm x.2 (selN_mem (Nat.le_refl _) x (List.mem_of_getElem? hx)).2.2
   obtain⟨i,x⟩:=x
   dsimp only at hb hxs⊢
   clear hx
   generalize bysL t ((selN p flow p.length).take j)=B at*
   rw [hb]
   (repeat' (conv=>whnf);first|refine ArOb.fits (by dsimp only;omega) ?_|refine aC ?_ ?_<;>intro<;>try omega|refine z2_T1 ?_|fail);all_goals try (conv=>whnf)
   all_goals first
    |(dsimp only at*;rw [if_pos (by assumption)])
    |(dsimp only at*;rw [if_neg (by assumption),Int.add_zero])
    |trace_state
 ·rintro o rfl
  rw [List.length_map,List.take_length]
  (repeat' (conv=>whnf);first|refine aC ?_ ?_<;>intro<;>try omega|refine z2_T1 ?_|fail);all_goals try (conv=>whnf)
  exact⟨rfl,rfl⟩
end
section
open Go.Sx Go.Pk Go.Cv
theorem Validate_ok (p : List Pk) (hp : p.length ≤ 1000000) : Ctr Tryz.prog 172 [.psl 3 (pks p)] [] (fun r o => o = [] ∧ r = i64 (vld p)) := by
  refine fI 0 Tryz.func172 ?_
  have hpl := pks_len p
  (repeat' (conv => whnf); first | refine aC ?_ ?_ <;> intro <;> try omega | refine z2_T1 ?_ | fail); all_goals try (conv => whnf)
  · exact ⟨rfl, by unfold vld; rw [if_pos (by omega)]; rfl⟩
  refine LoopOb.mk (Y := Nat) (st := fun i => ⟨[(11, i64 i), (10, i64 (pks p).length), (9, .psl 3 (pks p)), (3, i64 (lst p i))], []⟩)
    (inv := fun i => i ≤ p.length ∧ vldN p i = 0) (fun i => p.length - i) 0 [] ⟨by omega, rfl⟩ (by (exact aL)) ?_
  rintro i ⟨hi, hv⟩
  (repeat' (conv => whnf); first | refine z2_T1 ?_ | fail); all_goals try (conv => whnf)
  refine CondOb.mk (fun hlt => ?_) (fun hlt => ?_)
  · have hil : i < p.length := by omega
    have hg := pks_get hil
    have hs0 : vldN p (i + 1) = if bad (p.getD i pk0) then 2 else if (p.getD i pk0).t < lst p i then 7 else 0 := by simp only [vldN]; rw [if_neg (by omega)]
    have hs1 : bad (p.getD i pk0) → vldN p (i + 1) = 2 := fun h => by rw [hs0, if_pos h]
    have hs2 : ¬bad (p.getD i pk0) → (p.getD i pk0).t < lst p i → vldN p (i + 1) = 7 := fun h h' => by rw [hs0, if_neg h, if_pos h']
    have hs3 : ¬bad (p.getD i pk0) → ¬(p.getD i pk0).t < lst p i → vldN p (i + 1) = 0 := fun h h' => by rw [hs0, if_neg h, if_neg h']
    clear hs0
    have hl : lst p (i + 1) = (p.getD i pk0).t := rfl
    have hE : vldN p (i + 1) ≠ 0 → vld p = vldN p (i + 1) := fun h => by
      unfold vld; rw [if_neg (by omega)]; exact vldN_ge (by omega) h
    unfold bad at hs1 hs2 hs3
    generalize p.getD i pk0 = x at *
    generalize lst p i = y at *
    (repeat' (conv => whnf); first | refine ⟨i, _, rfl, hg, ?_⟩ | refine aC ?_ ?_ <;> intro <;> try omega | refine z2_T1 ?_ | fail); all_goals try (conv => whnf)
    all_goals first
      | (have e := hs3 (by omega) (by assumption)
         exact ⟨i + 1, [], ⟨by omega, e⟩, by omega, by rw [hl]; (exact aL)⟩)
      | (have e := hs1 (by omega)
         have e2 := (hE (by omega)).trans e
         rw [e2]
         exact ⟨rfl, rfl⟩)
      | (have e := hs2 (by omega) (by assumption)
         have e2 := (hE (by omega)).trans e
         rw [e2]
         exact ⟨rfl, rfl⟩)
      | trace_state
  · have e : i = p.length := by omega
    subst e
    (repeat' (conv => whnf); first | refine aC ?_ ?_ <;> intro <;> try omega | refine z2_T1 ?_ | fail); all_goals try (conv => whnf)
    exact ⟨rfl, by unfold vld; rw [if_neg (by omega), hv]; rfl⟩
end
section
open Go.Sx Go.Pk Go.Cv Go.St
abbrev CmpOK (g:Nat) (k:Pk→Int):Prop:=∀a b:Pk,Ctr Tryz.prog g [.agg (pkw a), .agg (pkw b)] [] (fun r o=>∃c:Int,(c<0↔k a<k b)∧o=[]∧r=i64 c)
theorem pks_at {A B:List Pk} {x:Pk}:(pks (A++x::B))[A.length]? =some (pkw x):=by
 rw [show(pks (A++x::B))=pks A++(pkw x::pks B)by simp [pks],List.getElem?_append_right (by rw [pks_len];omega),pks_len,Nat.sub_self];rfl
theorem pks_at2 {A B:List Pk} {x y:Pk}:(pks (A++y::x::B))[A.length+1]? =some (pkw x):=by
 have:=pks_at (A:=A++[y]) (x:=x) (B:=B)
 rw [List.append_assoc,List.length_append]at this
 exact this
theorem pks_swap {A B:List Pk} {x y:Pk}:((pks (A++y::x::B)).set (A.length+1) (pkw y)).set A.length (pkw x)=pks (A++x::y::B):=by
 have e:pks (A++y::x::B)=pks A++(pkw y::pkw x::pks B):=by simp [pks]
 have hl:=pks_len A
 rw [e,List.set_append_right _ _ (by omega),List.set_append_right _ _ (by omega),show pks (A++x::y::B)=pks A++(pkw x::pkw y::pks B)by simp [pks]]
 rw [show A.length+1-(pks A).length =1 by omega,show A.length-(pks A).length =0 by omega]
 rfl
theorem z1_T5 {G H:Prop} (k:H) (h:H→G:=by first|exact fun r=>aS r|exact fun r=>aG r|exact fun r=>aD r|exact fun r=>aH r|exact fun r=>aP_T1 r|exact fun r=>aI r|exact fun r=>aJ r|exact fun r=>aW (.qs [0,1,2,3,4,5,6,7,8,9,10,11,12,13] (.l 14 [] (.qs [15,16] .nil) .no)) r|exact fun r=>aW (.qs [0,1,2,3,4,5,6,7,8,9,10,11,12,13,14] (.l 15 [] (.qs [16] (.l 17 [] .nil .no)) .no)) r):G:=h k
theorem insSort_ok (g:Nat) (k:Pk→Int) (hc:CmpOK g k) (P M T:List Pk) (hl:P.length+M.length+T.length≤1000000):
  Ctr Tryz.prog 98 [.vec 0,i64 P.length,i64 (P.length+M.length:Nat), .fn g []] [.vec 3 (pks (P++(M++T)))] (fun r o=>o=[.vec 3 (pks (P++(srt k M++T)))]∧r= .tup []):=by
 refine fI 1 Tryz.func98 ?_
 (repeat' (conv=>whnf);first|refine aC ?_ ?_<;>intro<;>try omega|refine z1_T5 ?_|fail);all_goals try (conv=>whnf)
 refine LoopOb.mk (Y:=Nat) (st:=fun i=>⟨[(8,i64 (P.length+i:Nat)),(0, .vec 0),(1,i64 P.length),(2,i64 (P.length+M.length:Nat)),(3, .fn g [])],[.vec 3 (pks (P++(srt k (M.take i)++(M.drop i++T))))]⟩)
  (inv:=fun i=>1≤i∧i≤max 1 M.length) (fun i=>M.length-i) 1 [0] (by omega) ?_ ?_
 ·have e:srt k (M.take 1)++(M.drop 1++T)=M++T:=by
   cases M with
   |nil=>rfl
   |cons x r=>rfl
  rw [e]
  (exact aL)
 rintro i ⟨hi1,hi2⟩
 (repeat' (conv=>whnf);first|refine z1_T5 ?_|fail);all_goals try (conv=>whnf)
 refine CondOb.mk (fun hlt=>?_) (fun hlt=>?_)
 ·have hil:i<M.length:=by omega
  obtain⟨x,hx⟩:∃x,M[i]=x:=⟨_,rfl⟩
  have hd:M.drop i=x::M.drop (i+1):=by rw [List.drop_eq_getElem_cons hil,hx]
  have ht:srtR k (M.take (i+1))=insR k x (srtR k (M.take i)):=by rw [List.take_succ_eq_append_getElem hil,hx,srtR_snoc]
  have hRl:(srtR k (M.take i)).length =i:=by rw [srtR_len,List.length_take];omega
  have h0:=lay_zero P (srtR k (M.take i)) x (M.drop (i+1)++T)
  have hll:=fun m=>lay_len P (srtR k (M.take i)) x (M.drop (i+1)++T) m
  have hTl:(M.drop (i+1)++T).length ≤1000000:=by rw [List.length_append,List.length_drop];omega
  have hnx:P++(srt k (M.take (i+1))++(M.drop (i+1)++T))=P++((insR k x (srtR k (M.take i))).reverse ++(M.drop (i+1)++T)):=by unfold srt;rw [ht]
  rw [hd]
  rw [show P++(srt k (M.take i)++(x::M.drop (i+1)++T))=lay P (srtR k (M.take i)) x (M.drop (i+1)++T) 0 by rw [h0];rfl]
  have hlim:P.length+i+1+(M.drop (i+1)++T).length ≤1000000:=by rw [List.length_append,List.length_drop];omega
  generalize srtR k (M.take i)=R at*
  generalize hT:M.drop (i+1)++T=T' at*
  clear hd ht h0
  (repeat' (conv=>whnf);first|refine aC ?_ ?_<;>intro<;>try omega|refine z1_T5 ?_|fail);all_goals try (conv=>whnf)
  refine LoopOb.mk (Y:=Nat) (st:=fun m=>⟨[(9,i64 (P.length+(i-m):Nat)),(8,i64 (P.length+i:Nat)),(0, .vec 0),(1,i64 P.length),(2,i64 (P.length+M.length:Nat)),(3, .fn g [])],[.vec 3 (pks (lay P R x T' m))]⟩)
   (inv:=fun m=>m≤i∧∀y∈R.take m,k x<k y) (fun m=>i-m) 0 [0] ⟨by omega,by simp⟩ (by(exact aL)) ?_
  rintro m ⟨hm,hmy⟩
  have hpl:=pks_len (lay P R x T' m)
  rw [hll m,hRl]at hpl
  by_cases hmi:m<i
  ·obtain⟨A,B,y,hy,hA,e1,e2⟩:=lay_step P R x T' (m:=m) (by omega)
   have hg1:=pks_at (A:=A) (x:=y) (B:=x::B)
   have hg2:=pks_at2 (A:=A) (x:=x) (y:=y) (B:=B)
   have hsw:=pks_swap (A:=A) (x:=x) (y:=y) (B:=B)
   have hcc:=hc x y
   have hst:¬k x<k y→lay P R x T' m=P++((insR k x R).reverse ++T'):=fun h=>lay_stop P T' hmy fun z hz=>by rw [hy]at hz;cases hz;exact h
   have hm2:k x<k y→∀z∈R.take (m+1),k x<k z:=fun h z hz=>by
    rw [List.take_succ_eq_append_getElem (by omega)]at hz
    rcases List.mem_append.1 hz with hz|hz
    ·exact hmy z hz
    ·rw [List.mem_singleton.1 hz]
     rw [List.getElem?_eq_getElem (by omega)]at hy
     rw [Option.some.inj hy];exact h
   rw [e1]at hpl⊢
   rw [e1]at hst
   (repeat' (conv=>whnf);first|refine⟨_,(List.getElem?_set_ne (by omega)).trans hg1,?_⟩|refine⟨_,hg1,?_⟩|refine⟨_,hg2,?_⟩|refine⟨A.length,by omega,by(first|omega|(simp only [List.length_set];omega)),?_⟩|refine⟨A.length+1,by omega,by omega,?_⟩|refine aC ?_ ?_<;>intro<;>try omega|refine z1_T5 ?_|(refine aM [] hcc rfl rfl ?_;rintro _ _ ⟨c,hck,rfl,rfl⟩)|fail);all_goals try (conv=>whnf)
   ·exact⟨m+1,[0],⟨by omega,hm2 (hck.1 (by assumption))⟩,by omega,by rw [e2,←hsw];(exact aL)⟩
   ·exact⟨i+1,[0],by omega,by omega,by rw [hT,hnx,←hst (fun h=>absurd (hck.2 h) (by assumption))];(exact aL)⟩
  ·have e:m=i:=by omega
   have hst:lay P R x T' m=P++((insR k x R).reverse ++T'):=lay_stop P T' hmy fun z hz=>by rw [List.getElem?_eq_none (by omega)]at hz;cases hz
   (repeat' (conv=>whnf);first|refine aC ?_ ?_<;>intro<;>try omega|refine z1_T5 ?_|fail);all_goals try (conv=>whnf)
   exact⟨i+1,[0],by omega,by omega,by rw [hT,hnx,←hst];(exact aL)⟩
 ·have e1:M.take i=M:=List.take_of_length_le (by omega)
  have e2:M.drop i=[]:=List.drop_of_length_le (by omega)
  rw [e1,e2]
  (repeat' (conv=>whnf);first|refine aC ?_ ?_<;>intro<;>try omega|refine z1_T5 ?_|fail);all_goals try (conv=>whnf)
  exact⟨rfl,rfl⟩
end
end Go.Proofs.YtjhmjiimpmmnhaaGreat
