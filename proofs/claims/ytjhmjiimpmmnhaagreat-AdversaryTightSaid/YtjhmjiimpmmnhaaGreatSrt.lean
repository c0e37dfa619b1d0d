/- Lemmas of this seat. Conditions: as stated. -/
import Derived.Test.YtjhmjiimpmmnhaaGreatSxC
import Derived.Shelf.SlSortCmp.NoneTotal
import Derived.Test.YtjhmjiimpmmnhaaGreatT13
import Derived.Test.YtjhmjiimpmmnhaaGreatMn
import Derived.Test.YtjhmjiimpmmnhaaGreatS6
set_option linter.unusedVariables false
set_option linter.unusedSimpArgs false
set_option maxHeartbeats 2000000
set_option maxRecDepth 4000
section
namespace Go.Sx
open Go.Sort Go.Proofs Go.RowKit
variable {α:Type}
abbrev sRow (enc:α→List Int) (x:α):List SV:=(enc x).map fun n=>SV.num .i64 n
abbrev vRow (enc:α→List Int) (x:α):List Value:=(enc x).map fun n=>Value.int .i64 n
theorem sRow_rel {σ:PH} {β:List HB}:∀{l:List Int} {vs:List Value},relL σ β (l.map fun n=>SV.num .i64 n) vs↔vs=l.map fun n=>Value.int .i64 n
 |[],vs=>by simp [relL]
 |n::l,vs=>by
  simp only [List.map_cons,relL,rel]
  constructor
  ·rintro⟨v,vs',rfl,rfl,h⟩;rw [sRow_rel.1 h]
  ·rintro rfl;exact⟨_,_,rfl,rfl,sRow_rel.2 rfl⟩
theorem sRows_rel {σ:PH} {enc:α→List Int}:∀{q:List α} {vss:List (List Value)},relLL σ (q.map (sRow enc)) vss↔vss=q.map (vRow enc)
 |[],vs=>by simp [relLL]
 |x::q,vs=>by
  simp only [List.map_cons,relLL]
  constructor
  ·rintro⟨v,vs',rfl,h1,h2⟩;rw [sRows_rel.1 h2,sRow_rel.1 h1]
  ·rintro rfl;exact⟨_,_,rfl,sRow_rel.2 rfl,sRows_rel.2 rfl⟩
theorem flat_len {enc:α→List Value} {k:Nat} (hk:∀x,(enc x).length =k):∀q:List α,(q.map enc).flatten.length =q.length*k
 |[]=>by simp
 |x::q=>by rw [List.map_cons,List.flatten_cons,List.length_append,hk,flat_len hk q,List.length_cons,Nat.add_mul];omega
variable [Inhabited α]
theorem flat_at {enc : α → List Value} {k : Nat} (hk : ∀ x, (enc x).length = k) : ∀ (q : List α) (t : Nat), t < q.length * k → (q.map enc).flatten[t]? = some (enc (q[t / k]!))[t % k]!
  | [], t, h => by simp at h
  | x :: q, t, h => by
    have k0 : 0 < k := by rcases Nat.eq_zero_or_pos k with e | e; · subst e; simp at h
                          · exact e
    rw [List.map_cons, List.flatten_cons]
    by_cases ht : t < k
    · rw [List.getElem?_append_left (by rw [hk]; exact ht), Nat.div_eq_of_lt ht, Nat.mod_eq_of_lt ht]
      have : t < (enc x).length := by rw [hk]; exact ht
      rw [List.getElem?_eq_getElem this]
      simp [this]
    · rw [List.getElem?_append_right (by rw [hk]; omega), hk, flat_at hk q (t - k) (by rw [List.length_cons, Nat.add_mul] at h; omega)]
      have e : t / k = (t - k) / k + 1 := by
        rw [show t = (t - k) + k by omega, Nat.add_div_right _ k0]; congr 2; omega
      have e2 : t % k = (t - k) % k := by
        rw [show t = (t - k) + k by omega, Nat.add_mod_right]; congr 1; omega
      rw [e, e2]; simp
theorem flatK_eq {enc:α→List Value} {k:Nat} (hk:∀x,(enc x).length =k) (q:List α):flatK enc k q.toArray=(q.map enc).flatten.toArray :=by
 refine ext_get! (by rw [size_flatK];simp [flat_len hk]) fun t ht=>?_
 have ht':t<q.toArray.size*k:=by simpa using ht
 rw [get_flatK _ _ _ _ ht']
 have:=flat_at hk q t (by simpa using ht')
 simp [this]
theorem holdsK_of {enc:α→List Value} {k:Nat} (hk:∀x,(enc x).length =k) {w:World} {b:Nat} {T:TypeId} {q:List α} {rest:List Value} (h:w.heap[b]? =some (.cells ((q.map enc).flatten ++rest).toArray T (0,0))):HoldsK enc k w b 0 q.toArray:=by
 unfold HoldsK
 rw [flatK_eq hk]
 intro j hj
 have hj':j<(q.map enc).flatten.length :=by simpa using hj
 constructor
 ·simp only [World.cell?,h,Nat.zero_add]
  simp
  rw [List.getElem?_append_left hj',List.getElem?_eq_getElem hj'];rfl
 ·simp [World.frozen?,h]
theorem putRowK_get {enc:α→List Value} {k:Nat} (hk:∀x,(enc x).length =k) {w:World} {b:Nat} {T:TypeId} {q q':List α} {rest:List Value} (hl:q'.length=q.length) (h:w.heap[b]? =some (.cells ((q.map enc).flatten ++rest).toArray T (0,0))):
  (putRowK enc k w b 0 q'.toArray).heap[b]? =some (.cells ((q'.map enc).flatten ++rest).toArray T (0,0)):=by
 unfold putRowK
 rw [flatK_eq hk]
 unfold putRow mapBlock
 simp only [Array.getElem?_modify,if_true,h,Option.map_some,onCells]
 congr 2
 unfold putCells
 have e1:=flat_len hk q
 have e2:=flat_len hk q'
 rw [hl]at e2
 apply Array.ext
 ·simp [e1,e2]
 ·intro i h1 h2
  simp only [Array.getElem_mapIdx,List.getElem_toArray,List.size_toArray,Nat.zero_le,true_and,Nat.zero_add,Nat.sub_zero,id]
  by_cases hi:i<(q'.map enc).flatten.length
  ·rw [if_pos hi,List.getElem_append_left hi];simp
   rw [List.getElem?_eq_getElem hi];rfl
  ·rw [if_neg hi,List.getElem_append_right (by omega),List.getElem_append_right (by omega)]
   congr 1;omega
theorem putRowK_ne {enc:α→List Value} {k:Nat} {w:World} {b j:Nat} {d:Array α} (h:j≠b):(putRowK enc k w b 0 d).heap[j]? =w.heap[j]? :=by
 unfold putRowK putRow mapBlock
 simp only [Array.getElem?_modify,if_neg (Ne.symm h)]
theorem putRowK_size {enc:α→List Value} {k:Nat} {w:World} {b:Nat} {d:Array α}:(putRowK enc k w b 0 d).heap.size =w.heap.size:=by
 unfold putRowK putRow mapBlock
 simp
theorem permIn_all {d d':Array α} (h:PermIn 0 d.size d d'):d'.toList.Perm d.toList:=by
 obtain⟨h1,_,h3⟩:=h
 rw [show d'.extract 0 d.size=d' by rw [←h1];simp]at h3
 simpa using h3
theorem sortedIn_all {lt:α→α→Bool} {d:Array α} (h:SortedIn lt 0 d.size d):d.toList.Pairwise fun x y=>lt y x=false:=by
 rw [List.pairwise_iff_getElem]
 intro i j hi hj hij
 have:=h i j (Nat.zero_le _) hij (by simpa using hj)
 rwa [getElem!_pos d j (by simpa using hj),getElem!_pos d i (by simpa using hi)]at this
theorem SortFunc_ctr {P:Program} {ρ:Go.Shelf.Ren} (L:Go.Proofs.SlLaysF0.n6 P ρ) {f:Nat} (hf:f=ρ.f 6) (hfn:∃fn,P.funcs[f]? =some fn∧(fn.name== "runtime.NumGoroutine")=false∧fn.body.isNone=false)
  (k:Nat) (hk0:0<k) (aE:∀w,(isAgg (ρ.t 24)).run P w= .ok true w) (zE:∀w,(Go.sizeOf (ρ.t 24)).run P w= .ok k w) (enc:α→List Int) (hk:∀x,(enc x).length =k)
  (cf:α→α→Int) (hO:SWO (ltOf cf)) (g:Nat) (eg:∀args w,(callFunc g args).run P w= .ok (.enter g args) w)
  (hg:∀(x y:α) (W:World),Calls P g #[.agg (vRow enc x).toArray, .agg (vRow enc y).toArray] W fun e w'=>e= .returned (.int .i64 (cf x y))∧∃q os',w'=grow (W.drewN q) os')
  (q:List α) (hq:q.length<4611686018427387904):
  Ctr P f [.vec 0, .fn g []] [.vec k (q.map (sRow enc))] (fun r o=>r= .tup []∧∃q':List α,q'.Perm q∧q'.Pairwise (fun x y=>¬cf y x<0)∧o=[.vec k (q'.map (sRow enc))]):=by
 refine⟨hfn,fun w σ β vs hH hr=>?_⟩
 obtain⟨x,rfl⟩:∃x,β=[x]:=List.length_eq_one_iff.1 hH.len
 obtain⟨q1,q2,q3,q4⟩:=hH.ok 0 _ x rfl rfl
 obtain⟨v0,vs,rfl,h0,hr⟩:=hr
 obtain⟨v1,vs,rfl,h1,hr⟩:=hr
 have:vs=[]:=hr
 subst this
 obtain⟨y,hy,rfl⟩:=h0
 have:x=y:=by simpa using hy
 subst this
 obtain⟨cs,rfl,hcs⟩:=h1
 have:cs=[]:=hcs
 subst this
 subst hf
 rcases q4 with⟨hb,hn,hc⟩|⟨b,vss,rest,hb,hσ,hO2,hrr,hcap,hrest⟩
 ·have hq0:q=[]:=by simpa using hn
  subst hq0
  obtain⟨p,hxs⟩:∃p,x.slice= .slice p 0 x.cap:=⟨_,by rw [HB.slice,q2];rfl⟩
  rw [hxs]
  refine(AnyF.slices_SortFunc_none L p x.cap _ w).mono ?_
  rintro e w' ⟨rfl,rfl⟩
  exact⟨_,σ,[x],_, .tup [],rfl,hH,Fr.refl _ _ _,⟨[],rfl,rfl⟩,rfl,[],List.Perm.refl _,List.Pairwise.nil,rfl⟩
 ·obtain⟨hsc,T,hw⟩:=hO2
  have hlen:x.len=q.length:=by rw [q2];simp
  have hvs:vss=q.map (vRow enc):=sRows_rel.1 hrr
  subst hvs
  have hkv:∀x,(vRow enc x).length =k:=fun x=>by simp [hk]
  have hxs:x.slice= .slice (some ⟨b,0,none⟩) q.toArray.size x.cap:=by simp [HB.slice,adr,hb,hlen]
  rw [hxs]
  have hbl:b<w.heap.size:=lt_of_get hw
  have hrun:=AnyQ.slices_SortFunc L k aE zE (vRow enc) hkv (fun x v hv=>by
   obtain⟨n,_,rfl⟩:=List.mem_map.1 hv;rfl) cf hO g #[] b 0 x.cap q.toArray w eg (fun _ _ _ _ x y=>hg x y _) (holdsK_of hkv hw) hbl (by simpa using hq)
  refine hrun.mono ?_
  rintro e w' ⟨rfl,d',n,os,hp,hs,rfl⟩
  have hpl:d'.toList.Perm q:=by simpa using permIn_all hp
  have hsz:d'.size=q.length:=by have:=hp.1;simpa using this
  have hsl:=sortedIn_all (d:=d') (by rw [show d'.size=q.toArray.size by simp [hsz]];exact hs)
  obtain⟨q',rfl⟩:∃q':List α,d'=q'.toArray:=⟨d'.toList,rfl⟩
  have hql:q'.length=q.length:=by simpa using hsz
  have hg2:=putRowK_get hkv (w:=Sort.ahead w n) (q':=q') hql hw
  have hgs:(putRowK (vRow enc) k (Sort.ahead w n) b 0 q'.toArray).heap.size =w.heap.size:=putRowK_size
  have hkeep:∀j,j<w.heap.size→(sortWorldK (vRow enc) k w b 0 n q'.toArray os).heap[j]? =(putRowK (vRow enc) k (Sort.ahead w n) b 0 q'.toArray).heap[j]? :=fun j hj=>by
   show(_++os)[j]? =_
   rw [Array.getElem?_append,if_pos (by rw [hgs];exact hj)]
  have hother:∀j,j<w.heap.size→j≠b→(sortWorldK (vRow enc) k w b 0 n q'.toArray os).heap[j]? =w.heap[j]? :=fun j hj hne=>by
   rw [hkeep j hj,putRowK_ne hne];rfl
  have hsize:w.heap.size≤(sortWorldK (vRow enc) k w b 0 n q'.toArray os).heap.size :=by
   show _≤(_++os).size
   rw [Array.size_append,hgs];omega
  have hbx:b∈x.blks:=by simp [HB.blks,hb]
  refine⟨_,σ,[x],_, .tup [],rfl,⟨?_,rfl,?_,?_,?_,?_⟩,⟨rfl,rfl,⟨rfl,Nat.le_add_right _ _⟩,hsize,?_,PH.le.refl _,fun _ _ h _=> .inl h,HB.le.refl _,?_⟩,⟨[],rfl,rfl⟩,rfl,q',by simpa using hpl,?_,rfl⟩
  ·intro b' cs hb'
   obtain⟨T',fz,hq⟩:=hH.ph b' cs hb'
   refine⟨T',fz,?_⟩
   rw [hother b' (lt_of_get hq) (fun h=>by rw [h,hσ]at hb';cases hb')];exact hq
  ·rintro(_|h) c y hc hy
   ·have h1:c= .vec k (q'.map (sRow enc)):=by simpa using hc.symm
    have h2:y=x:=by simpa using hy.symm
    subst h1 h2
    refine⟨q1,by rw [hlen];simp [hql],fun r hr=>?_, .inr ⟨b,q'.map (vRow enc),rest,hb,hσ,⟨?_,T,?_⟩,sRows_rel.2 rfl,?_,?_⟩⟩
    ·obtain⟨z,_,rfl⟩:=List.mem_map.1 hr;simp [hk]
    ·intro v hv
     rcases List.mem_append.1 hv with hv|hv
     ·obtain⟨r,hr,hv⟩:=List.mem_flatten.1 hv
      obtain⟨z,_,rfl⟩:=List.mem_map.1 hr
      obtain⟨n,_,rfl⟩:=List.mem_map.1 hv
      rfl
     ·exact hsc v (List.mem_append.2 (.inr hv))
    ·rw [hkeep b hbl];exact hg2
    ·simp only [List.length_map]at hcap⊢;omega
    ·rw [flat_len hkv,hql,←flat_len hkv];exact hrest
   ·simp at hc
  ·rintro(_|h) y b' hy hb'
   ·have:x=y:=by simpa using hy
    subst this
    exact Nat.lt_of_lt_of_le (hH.lt 0 x b' rfl hb') hsize
   ·simp at hy
  ·rintro(_|h) (_|h') c c' y y' b' hc hc' hl1 hl2 hy hy' hb1 hb2
   ·rfl
   ·simp at hc'
   ·simp at hc
   ·simp at hc
  ·rintro(_|h) c y b' hc hl1 hy hb'
   ·have h2:x=y:=by simpa using hy
    subst h2
    exact hH.psn 0 _ x b' rfl rfl rfl hb'
   ·simp at hc
  ·intro b' hb' hn
   exact hother b' hb' fun h=>hn (by subst h;exact⟨0,x,rfl,hbx⟩)
  ·intro h y b' hy hb'
   exact .inr ⟨h,y,hy,hb'⟩
  ·refine List.Pairwise.imp ?_ (by simpa using hsl)
   intro x y h
   simp [ltOf]at h
   omega
theorem Ctr.grown {P:Program} {f:Nat} {args:List SV} {post:SV→List Chunk→Prop} (h:Ctr P f args [] post) {vs:List Value} (hr:relL (fun _=>none) [] args vs) (W:World):
  Calls P f vs.toArray W fun e w'=>∃v r o σ' β',e= .returned v∧rel σ' β' r v∧post r o∧∃q os',w'=grow (W.drewN q) os':=by
 refine(h.run W (fun _=>none) [] vs ⟨fun _ _ h=>(by cases h),rfl,fun h c x h1=>(by simp at h1),fun h x b h1=>(by simp at h1),fun h h' c c' x x' b h1=>(by simp at h1),fun h c x b h1=>(by simp at h1)⟩ hr).mono ?_
 rintro e w' ⟨v,σ',β',own',r,he,_,hF,hrel,hp⟩
 refine⟨v,r,own',σ',β',he,hrel,hp,w'.drawn-W.drawn,w'.heap.extract W.heap.size w'.heap.size,?_⟩
 have hs:=hF.size
 have hh:w'.heap=W.heap++w'.heap.extract W.heap.size w'.heap.size:=by
  apply Array.ext_getElem?
  intro i
  by_cases hi:i<W.heap.size
  ·rw [Array.getElem?_append_left hi]
   exact hF.block i hi fun⟨h,x,hx,_⟩=>by simp at hx
  ·rw [Array.getElem?_append_right (by omega)]
   by_cases hj:i<w'.heap.size
   ·rw [Array.getElem?_extract]
    rw [if_pos (by omega)]
    congr 1;omega
   ·rw [Array.getElem?_eq_none (by omega),Array.getElem?_eq_none (by simp;omega)]
 have hd:=hF.output.2
 have ho:=hF.output.1
 have h1:=hF.os
 have h2:=hF.tape
 obtain⟨a1,a2,a3,a4,a5⟩:=w'
 obtain⟨b1,b2,b3,b4,b5⟩:=W
 simp only at hh hd ho h1 h2 hs
 subst h1 h2 ho
 simp only [grow,World.drewN,World.mk.injEq]
 exact⟨hh,trivial,by omega,trivial,trivial⟩
end Go.Sx
end
namespace Go.Proofs.YtjhmjiimpmmnhaaGreat
section
open Go.Sx Go.Pk Go.Mc Go.Np
theorem nan_ok (x:Int):Ctr Tryz.prog 70 [i64 x] [] (fun r o=>o=[]∧r= .bp (x≠x)):=by
 refine fI 0 Tryz.func70 ?_
 (repeat' (conv=>whnf);first|refine aC ?_ ?_<;>intro<;>try omega|refine z2_T1 ?_|fail);all_goals try (conv=>whnf)
 exact⟨rfl,rfl⟩
theorem cmp_ok (x y:Int):Ctr Tryz.prog 48 [i64 x,i64 y] [] (fun r o=>o=[]∧r=i64 (cmpI x y)):=by
 refine fI 0 Tryz.func48 ?_
 obtain⟨v,hv⟩:∃v,v=cmpI x y:=⟨_,rfl⟩
 rw [←hv]
 unfold cmpI at hv
 rcases Int.lt_trichotomy x y with h|h|h
 ·rw [if_pos h]at hv
  subst hv
  (repeat' (conv=>whnf);first|refine aC ?_ ?_<;>intro<;>try omega|refine z2_T1 ?_|(refine aM [] (nan_ok _) rfl rfl ?_;rintro _ _ ⟨rfl,rfl⟩)|fail);all_goals try (conv=>whnf)
  exact⟨rfl,rfl⟩
 ·rw [if_neg (by omega),if_neg (by omega)]at hv
  subst hv
  (repeat' (conv=>whnf);first|refine aC ?_ ?_<;>intro<;>try omega|refine z2_T1 ?_|(refine aM [] (nan_ok _) rfl rfl ?_;rintro _ _ ⟨rfl,rfl⟩)|fail);all_goals try (conv=>whnf)
  exact⟨rfl,rfl⟩
 ·rw [if_neg (by omega),if_pos h]at hv
  subst hv
  (repeat' (conv=>whnf);first|refine aC ?_ ?_<;>intro<;>try omega|refine z2_T1 ?_|(refine aM [] (nan_ok _) rfl rfl ?_;rintro _ _ ⟨rfl,rfl⟩)|fail);all_goals try (conv=>whnf)
  exact⟨rfl,rfl⟩
theorem or_ok (l:List Int) (hl:l.length≤100):Ctr Tryz.prog 127 [.vec 0] [.vec 1 (ints l)] (fun r o=>o=[.vec 1 (ints l)]∧r=i64 ((l.find? fun x=>decide (x≠0)).getD 0)):=by
 refine fI 1 Tryz.func127 ?_
 have hil:=ints_len l
 (repeat' (conv=>whnf);first|refine aC ?_ ?_<;>intro<;>try omega|refine z2_T1 ?_|fail);all_goals try (conv=>whnf)
 refine LoopOb.mk (Y:=Nat) (st:=fun i=>⟨[(8,i64 i),(7,i64 (ints l).length),(6, .vec 0),(3,i64 0)],[.vec 1 (ints l)]⟩)
  (inv:=fun i=>i≤l.length∧l.find? (fun x=>decide (x≠0))=(l.drop i).find? fun x=>decide (x≠0)) (fun i=>l.length-i) 0 [0] ⟨by omega,rfl⟩ (by(exact aL)) ?_
 rintro i ⟨hi,he⟩
 rw [he]
 (repeat' (conv=>whnf);first|refine z2_T1 ?_|fail);all_goals try (conv=>whnf)
 refine CondOb.mk (fun hlt=>?_) (fun hlt=>?_)
 ·have hil2:i<l.length:=by omega
  have hg:=ints_get (l:=l) (j:=i) hil2
  have hd:l.drop i=l.getD i 0::l.drop (i+1):=by
   rw [List.drop_eq_getElem_cons hil2,List.getD_eq_getElem?_getD,List.getElem?_eq_getElem hil2];rfl
  rw [hd]at he⊢
  generalize l.getD i 0=v at*
  by_cases hv:v=0
  ·subst hv
   simp only [List.find?_cons,ne_eq,not_true_eq_false,decide_false]at he⊢
   (repeat' (conv=>whnf);first|refine aC ?_ ?_<;>intro<;>try omega|refine z2_T1 ?_|refine⟨i,rfl,by omega,?_⟩|refine⟨_,hg,?_⟩|fail);all_goals try (conv=>whnf)
   exact⟨i+1,[0],⟨by omega,by first|rfl|exact he⟩,by omega,by(exact aL)⟩
  ·have e:List.find? (fun x=>decide (x≠0)) (v::l.drop (i+1))=some v:=by simp [hv]
   rw [e]
   (repeat' (conv=>whnf);first|refine aC ?_ ?_<;>intro<;>try omega|refine z2_T1 ?_|refine⟨i,rfl,by omega,?_⟩|refine⟨_,hg,?_⟩|fail);all_goals try (conv=>whnf)
   exact⟨rfl,rfl⟩
 ·obtain rfl:i=l.length:=by omega
  rw [List.drop_length]
  (repeat' (conv=>whnf);first|refine aC ?_ ?_<;>intro<;>try omega|refine z2_T1 ?_|fail);all_goals try (conv=>whnf)
  exact⟨rfl,rfl⟩
abbrev wcl (F:Tf) (x:Wt):List Int:=[F.cs x.i,x.a,F.s x.i,x.f,(x.i:Int)]
theorem z2_So1 {G H:Prop} (k:H) (h:H→G:=by first|exact fun r=>aS r|exact fun r=>aG r|exact fun r=>aD r|exact fun r=>aH r|exact fun r=>aP_T1 r|exact fun r=>aI r|exact fun r=>aJ r|exact fun r=>aW (.qs [0,1,2,3,4,5,7,8,9,10,12,13,14,15] (.l 6 [15,13,10,8] (.l 11 [15,13] (.l 16 [] (.l 17 [] (.l 18 [] (.qs [19] .nil) .no) .no) .no) .no) .no)) r):G:=h k
theorem q1_ok (F:Tf) (x y:Wt):Ctr Tryz.prog 126 [.agg (sRow (wcl F) x), .agg (sRow (wcl F) y)] [] (fun r o=>r=i64 (cmpW x y)):=by
 refine fI 0 Tryz.func126 ?_
 have e:([cmpI x.a y.a,cmpI x.f y.f,cmpI x.i y.i].find? fun x=>decide (x≠0)).getD 0=cmpW x y:=by
  unfold cmpW
  generalize cmpI x.a y.a=a
  generalize cmpI x.f y.f=b
  generalize cmpI x.i y.i=c
  by_cases h1:a=0
  ·by_cases h2:b=0
   ·by_cases h3:c=0<;>simp [h1,h2,h3]
   ·simp [h1,h2]
  ·simp [h1]
 simp only [sRow,List.map_cons,List.map_nil]
 (repeat' (conv=>whnf);first|refine aC ?_ ?_<;>intro<;>try omega|refine z2_So1 ?_|(refine aM [] (cmp_ok _ _) rfl rfl ?_;rintro _ _ ⟨rfl,rfl⟩)|(refine aK [2] (or_ok [cmpI x.a y.a,cmpI x.f y.f,cmpI x.i y.i] (by simp)) ?_;rw [e])|fail);all_goals try (conv=>whnf)
 exact rfl
instance :Inhabited Wt:=⟨⟨0,0,0⟩⟩
theorem cmpW_swo:Go.Sort.SWO (ltOf cmpW) where
 irrefl x:=by
  simp only [ltOf,decide_eq_false_iff_not]
  rw [cmpW_lt];exact fun h=>Wt.lt_irr h
 trans x y z h1 h2:=by
  simp only [ltOf,decide_eq_true_eq,cmpW_lt]at*
  exact Wt.lt_tr h1 h2
 ntrans x y z h1 h2:=by
  simp only [ltOf,decide_eq_false_iff_not,cmpW_lt]at*
  intro h
  rcases Wt.lt_tri x y with k|k|k
  ·exact h1 k
  ·subst k;exact h2 h
  ·exact h2 (Wt.lt_tr k h)
theorem sortW_ok (F:Tf) (q:List Wt) (hq:q.length≤1000):Ctr Tryz.prog 125 [.vec 0, .fn 126 []] [.vec 5 (q.map (sRow (wcl F)))] (fun r o=>r= .tup []∧∃q':List Wt,q'.Perm q∧q'.Pairwise (fun x y=>¬y.lt x)∧o=[.vec 5 (q'.map (sRow (wcl F)))]):=by
 have eg:∀args w,(callFunc 126 args).run Tryz.prog w= .ok (.enter 126 args) w:=enters_of Tryz.func126 (by kernel_rfl) rfl
 have h:=SortFunc_ctr sortW (f:=125) rfl ⟨_,Tryz.func125,by kernel_rfl,by kernel_rfl⟩ 5 (by omega) Tryz.isAgg197 Tryz.sizeOf197 (wcl F) (fun _=>rfl) cmpW cmpW_swo 126 eg
  (fun x y W=>((q1_ok F x y).grown (vs:=[.agg (vRow (wcl F) x).toArray, .agg (vRow (wcl F) y).toArray]) ⟨_,_,rfl,⟨_,rfl,sRow_rel.2 rfl⟩,_,_,rfl,⟨_,rfl,sRow_rel.2 rfl⟩,rfl⟩ W).mono (by
   rintro e w' ⟨v,r,o,σ',β',rfl,hr,rfl,hg⟩
   have:v= .int .i64 (cmpW x y):=hr
   subst this
   exact⟨rfl,hg⟩)) q (by omega)
 refine h.mono ?_
 rintro r o ⟨h1,q',h2,h3,h4⟩
 exact⟨h1,q',h2,h3.imp fun h=>by rwa [cmpW_lt]at h,h4⟩
end
end Go.Proofs.YtjhmjiimpmmnhaaGreat
