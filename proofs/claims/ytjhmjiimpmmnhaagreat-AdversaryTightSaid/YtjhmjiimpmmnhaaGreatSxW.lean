/- Lemmas of this seat. Conditions: as stated. -/
import Derived.Test.YtjhmjiimpmmnhaaGreatSxC
set_option linter.unusedVariables false
set_option linter.unusedSimpArgs false
namespace Go.Sx
def flatV:SV→Bool
 |.num _ _| .bl _| .nil =>true
 |_=>false
def flatW:SV→Bool
 |.vec _=>true
 |s=>flatV s
def flatR:SV→Bool
 |.tup l=>l.all flatW
 |s=>flatW s
def flatC (c:Chunk):Prop:=∃esz rows,c= .vec esz rows∧∀r∈rows,∀s∈r,flatV s=true
def shV (n:Nat):SV→SV
 |.vec h=> .vec (n+h)
 |s=>s
def shR (n:Nat):SV→SV
 |.tup l=> .tup (l.map (shV n))
 |s=>shV n s
theorem flatV_rel {σ σ':PH} {β β':List HB} {s:SV} {v:Value} (h:flatV s=true) (hr:rel σ β s v):rel σ' β' s v:=by
 cases s<;>simp only [flatV]at h<;>first|(cases h;done)|(simp only [rel]at*;exact hr)
theorem flatL_rel {σ σ':PH} {β β':List HB}:∀{l:List SV} {vs:List Value},(∀s∈l,flatV s=true)→relL σ β l vs→relL σ' β' l vs
 |[],_,_,h=>by simpa only [relL]using h
 |s::l,vs,hf,h=>by
  simp only [relL]at*
  obtain⟨v,vs',e,h1,h2⟩:=h
  exact⟨v,vs',e,flatV_rel (hf s (by simp)) h1,flatL_rel (fun x hx=>hf x (by simp [hx])) h2⟩
theorem flatLL_rel {σ σ':PH}:∀{l:List (List SV)} {vss:List (List Value)},(∀r∈l,∀s∈r,flatV s=true)→relLL σ l vss→relLL σ' l vss
 |[],_,_,h=>by simpa only [relLL]using h
 |r::l,vss,hf,h=>by
  simp only [relLL]at*
  obtain⟨vs,vss',e,h1,h2⟩:=h
  exact⟨vs,vss',e,flatL_rel (hf r (by simp)) h1,flatLL_rel (fun x hx=>hf x (by simp [hx])) h2⟩
theorem shV_rel {σ σ':PH} {β β':List HB} {s:SV} {v:Value} (h:flatW s=true) (hr:rel σ' β' s v):rel σ (β++β') (shV β.length s) v:=by
 cases s
 case vec k=>
  simp only [shV,rel]at*
  obtain⟨x,hx,e⟩:=hr
  exact⟨x,by rw [List.getElem?_append_right (by omega),Nat.add_sub_cancel_left];exact hx,e⟩
 all_goals exact flatV_rel h hr
theorem shL_rel {σ σ':PH} {β β':List HB}:∀{l:List SV} {vs:List Value},l.all flatW=true→relL σ' β' l vs→relL σ (β++β') (l.map (shV β.length)) vs
 |[],_,_,h=>by simpa only [relL,List.map_nil]using h
 |s::l,vs,hf,h=>by
  simp only [List.all_cons,Bool.and_eq_true]at hf
  simp only [relL,List.map_cons]at*
  obtain⟨v,vs',e,h1,h2⟩:=h
  exact⟨v,vs',e,shV_rel hf.1 h1,shL_rel hf.2 h2⟩
theorem shR_rel {σ σ':PH} {β β':List HB} {s:SV} {v:Value} (h:flatR s=true) (hr:rel σ' β' s v):rel σ (β++β') (shR β.length s) v:=by
 cases s
 case tup l=>
  simp only [shR,rel]at*
  obtain⟨vs,e,h1⟩:=hr
  exact⟨vs,e,shL_rel h h1⟩
 all_goals (refine @shV_rel σ σ' β β' _ v ?_ hr;exact h)
theorem Ctr.borrow {P:Program} {f:Nat} {args1 args0:List SV} {own0:List Chunk} {post:SV→List Chunk→Prop} (hc:Ctr P f args1 [] post)
  (hz:∀w σ β vs,HeapOK w σ β own0→relL σ β args0 vs→∃σf:PH,(∀b cs,σf b=some cs→Blk w b cs)∧relL σf [] args1 vs)
  (hf:∀r o,post r o→flatR r=true∧∀c∈o,flatC c):
  Ctr P f args0 own0 (fun r o=>∃r1 o1,post r1 o1∧r=shR own0.length r1∧o=own0++o1):=by
 refine⟨hc.1,fun w σ β vs hH hr=>?_⟩
 obtain⟨σf,hb,hr1⟩:=hz w σ β vs hH hr
 have hH1:HeapOK w σf [] []:=⟨hb,rfl,fun h c x h1 _=>by simp at h1,fun h x b h1 _=>by simp at h1,fun h h' c c' x x' b h1=>by simp at h1,fun h c x b h1=>by simp at h1⟩
 refine(hc.2 w σf [] vs hH1 hr1).mono ?_
 rintro e w' ⟨v,σ2,β2,own2,r,he,hH2,hF,hrv,hp⟩
 have hlen:=hH.len
 have hnb:∀b,¬inB [] b:=by rintro b ⟨h,x,hx,_⟩;simp at hx
 have hblk:∀b,b<w.heap.size→w'.heap[b]? =w.heap[b]? :=fun b hb=>hF.block b hb (hnb b)
 have hnew:∀(h:Nat) (x:HB) (b:Nat),β2[h]? =some x→b∈x.blks→w.heap.size≤b:=fun h x b h1 h2=>(hF.fresh h x b h1 h2).elim id (fun h=>absurd h (hnb b))
 have hσlt:∀b cs,σ b=some cs→b<w.heap.size:=fun b cs h=>(hH.ph b cs h).lt
 have hσn:∀b,w.heap.size≤b→σ b=none:=fun b hb=>by
  cases h:σ b with
  |none=>rfl
  |some cs=>have:=hσlt b cs h;omega
 obtain⟨f1,f2⟩:=hf r own2 hp
 have spl:∀{h:Nat} {c:Chunk} {x:HB},(own0++own2)[h]? =some c→(β++β2)[h]? =some x→(own0[h]? =some c∧β[h]? =some x)∨(own0.length≤h∧own2[h-own0.length]? =some c∧β2[h-own0.length]? =some x):=by
  intro h c x h1 h2
  rcases Nat.lt_or_ge h own0.length with h3|h3
  ·rw [List.getElem?_append_left h3]at h1
   rw [List.getElem?_append_left (by omega)]at h2
   exact .inl ⟨h1,h2⟩
  ·rw [List.getElem?_append_right h3]at h1
   rw [List.getElem?_append_right (by omega),hlen]at h2
   exact .inr ⟨h3,h1,h2⟩
 have splb:∀{h:Nat} {x:HB},(β++β2)[h]? =some x→β[h]? =some x∨β2[h-own0.length]? =some x:=by
  intro h x h2
  rcases Nat.lt_or_ge h β.length with h3|h3
  ·rw [List.getElem?_append_left h3]at h2
   exact .inl h2
  ·rw [List.getElem?_append_right h3,hlen]at h2
   exact .inr h2
 refine⟨v,σ,β++β2,own0++own2,shR own0.length r,he,⟨fun b cs h=>?_,by rw [List.length_append,List.length_append,hlen,hH2.len],fun h c x h1 h2=>?_,fun h x b h1 h2=>?_,fun h h' c c' x x' b h1 h2 h3 h4 h5 h6 h7 h8=>?_,fun h c x b h1 h2 h3 h4=>?_⟩,
  ⟨hF.os,hF.tape,hF.output,hF.size,fun b h1 _=>hblk b h1,PH.le.refl _,fun b cs h _=> .inl h,HB.le_append _ _,fun h x b h1 h2=>?_⟩,?_,r,own2,hp,rfl,rfl⟩
 ·obtain⟨T,fz,hh⟩:=hH.ph b cs h
  exact⟨T,fz,by rw [hblk b (hσlt b cs h)];exact hh⟩
 ·rcases spl h1 h2 with⟨k1,k2⟩|⟨_,k1,k2⟩
  ·exact chunkOK.step (PH.le.refl _) (HB.le_append _ _) (hH.ok h c x k1 k2) (fun _ _ _ h=>h) (fun _ b hb=>hblk b (hH.lt h x b k2 hb))
  ·have hk:=hH2.ok _ _ _ k1 k2
   obtain⟨esz,rows,rfl,hfl⟩:=f2 c (List.mem_of_getElem? k1)
   obtain⟨q1,q2,q3,q4⟩:=hk
   refine⟨q1,q2,q3,q4.imp id ?_⟩
   rintro⟨b,vss,rest,e1,_,e3,e4,e5,e6⟩
   exact⟨b,vss,rest,e1,hσn b (hnew _ x b k2 (HB.blk_mem e1)),e3,flatLL_rel hfl e4,e5,e6⟩
 ·rcases splb h1 with k|k
  ·exact Nat.lt_of_lt_of_le (hH.lt h x b k h2) hF.size
  ·exact hH2.lt _ x b k h2
 ·rcases spl h1 h5 with⟨k1,k2⟩|⟨k0,k1,k2⟩<;>rcases spl h2 h6 with⟨l1,l2⟩|⟨l0,l1,l2⟩
  ·exact hH.apart h h' c c' x x' b k1 l1 h3 h4 k2 l2 h7 h8
  ·have:=hH.lt h x b k2 h7
   have:=hnew _ x' b l2 h8
   omega
  ·have:=hH.lt h' x' b l2 h8
   have:=hnew _ x b k2 h7
   omega
  ·have:=hH2.apart _ _ c c' x x' b k1 l1 h3 h4 k2 l2 h7 h8
   omega
 ·rcases spl h1 h3 with⟨k1,k2⟩|⟨_,k1,k2⟩
  ·exact hH.psn h c x b k1 h2 k2 h4
  ·exact hσn b (hnew _ x b k2 h4)
 ·rcases splb h1 with k|k
  ·exact .inr ⟨h,x,k,h2⟩
  ·exact .inl (hnew _ x b k h2)
 ·rw [←hlen];exact shR_rel f1 hrv
theorem mat_frz {w:World} {σ:PH} {β:List HB} {esz:Nat} {ms:List (List (List SV))} (hH:HeapOK w σ β [.mat esz ms]):
  ∃σf:PH,(∀b cs,σf b=some cs→Blk w b cs)∧PH.le σ σf∧∀x,β[0]? =some x→rel σf [] (.psl 1 (ms.map fun m=>[.psl esz m])) x.slice:=by
 obtain⟨x,hx⟩:∃x,β[0]? =some x:=⟨_,List.getElem?_eq_getElem (by rw [hH.len];simp)⟩
 have hc:([Chunk.mat esz ms]:List Chunk)[0]? =some (.mat esz ms):=rfl
 obtain⟨h1,h2,h3,h4,h5,h6⟩:=hH.ok _ _ _ hc hx
 let cellsAt:Nat→Option (List Value):=fun b=>match w.heap[b]? with|some (.cells cs _ _)=>some cs.toList|_=>none
 have hcell:∀b cs,Blk w b cs→cellsAt b=some cs:=by
  rintro b cs ⟨T,fz,hb⟩;simp only [cellsAt,hb]
 let σ':PH:=fun b=>if b∈x.blks then cellsAt b else σ b
 have hle:PH.le σ σ':=by
  intro b cs hb
  have:b∉x.blks:=fun hm=>by rw [hH.psn 0 _ x b hc rfl hx hm]at hb;cases hb
  simp only [σ',if_neg this];exact hb
 refine⟨σ',?_,hle,?_⟩
 ·intro b cs hb
  by_cases hm:b∈x.blks
  ·simp only [σ',if_pos hm,cellsAt]at hb
   split at hb
   ·rename_i cs' T fz hh;cases hb;exact⟨T,fz,by rw [hh]⟩
   ·cases hb
  ·simp only [σ',if_neg hm]at hb;exact hH.ph b cs hb
 ·intro x2 hx2
  rw [hx]at hx2;cases hx2
  have hrow:∀(i:Nat) (y:HI) (m:List (List SV)),x.inn[i]? =some y→ms[i]? =some m→rel σ' [] (.psl esz m) y.slice:=by
   intro i y m hy hm
   obtain⟨_,q2,q3,q4⟩:=h5 i y m hy hm
   simp only [rel]
   rcases q4 with⟨hn,rfl,hcap⟩|⟨b,vss,rest,hb,hσ,hO,hrr,hcap,hl⟩
   ·exact⟨adr y.blk y.z,y.cap,[],by simp [HI.slice,q2],by simp,by simp [relLL],by simp, .inl rfl⟩
   ·refine⟨some ⟨b,0,none⟩,y.cap,vss,by simp [HI.slice,adr,hb,q2],hcap,relLL.mono hle _ _ hrr,q3, .inr ⟨b,0,rfl,fun v hv=>hO.1 v (by simp [List.mem_append,hv]),[],rest,?_,rfl⟩⟩
    simp only [σ',if_pos (HB.inn_mem hy hb)]
    rw [hcell b _ hO.blk];simp
  have hrows:∀(l:List HI) (q:List (List (List SV))),l.length=q.length→(∀(i:Nat) (y:HI) (m:List (List SV)),l[i]? =some y→q[i]? =some m→rel σ' [] (.psl esz m) y.slice)→
    relLL σ' (q.map fun m=>[.psl esz m]) (l.map fun y=>[y.slice]):=by
   intro l
   induction l with
   |nil=>intro q hq _;cases q with
    |nil=>simp [relLL]
    |cons=>simp at hq
   |cons y l ih=>intro q hq hr;cases q with
    |nil=>simp at hq
    |cons m q=>
     simp only [List.map_cons]
     exact relLL_cons.2 ⟨relL_cons.2 ⟨hr 0 y m (by simp) (by simp),by simp [relL]⟩,ih q (by simpa using hq) (fun i z k hz hk=>hr (i+1) z k (by simpa using hz) (by simpa using hk))⟩
  have hfl:∀(l:List HI),(l.map fun y=>[y.slice]).flatten =l.map HI.slice:=by
   intro l;induction l with
   |nil=>rfl
   |cons y l ih=>simp only [List.map_cons,List.flatten_cons,ih];rfl
  simp only [rel]
  rcases h6 with⟨hb,hm,hcap⟩|⟨b,rest,hb,hσ,hO,hcap,hl⟩
  ·subst hm
   exact⟨adr x.blk x.z,x.cap,[],by simp [HB.slice,h2],by simp,by simp [relLL],by simp,by simp⟩
  ·refine⟨some ⟨b,0,none⟩,x.cap,x.inn.map fun y=>[y.slice],by simp [HB.slice,adr,hb,h2],by simpa using hcap,hrows _ _ h4 hrow,by intro r hr;simp only [List.mem_map]at hr;obtain⟨m,_,rfl⟩:=hr;rfl, .inr ⟨b,0,rfl,?_,[],rest,?_,rfl⟩⟩
   ·intro v hv;rw [hfl]at hv;exact hO.1 v (by simp [List.mem_append,List.mem_map]at hv⊢;left;exact hv)
   ·simp only [σ',if_pos (HB.blk_mem hb)]
    rw [hcell b _ hO.blk,hfl];simp
mutual
def bw (c:SV):SV→SV
 |.vec 0=>c
 |.agg l=> .agg (bwL c l)
 |s=>s
def bwL (c:SV):List SV→List SV
 |[]=>[]
 |s::l=>bw c s::bwL c l
end
mutual
theorem bw_ok {σ σf:PH} {β:List HB} {c:SV} (hle:PH.le σ σf) (hx:∀x,β[0]? =some x→rel σf [] c x.slice):∀(s:SV) (v:Value),closed (bw c s)=true→rel σ β s v→rel σf [] (bw c s) v
 |.vec 0,v,_,hr=>by simp only [rel]at hr;obtain⟨x,h1,rfl⟩:=hr;exact hx x h1
 |.agg l,v,h,hr=>by simp only [bw,closed,rel]at*;obtain⟨vs,e,hr⟩:=hr;exact⟨vs,e,bwL_ok hle hx l vs h hr⟩
 |.vec (n+1),_,h,_| .ptr _ _,_,h,_| .elt _ _ _,_,h,_| .row _ _,_,h,_| .mp _,_,h,_| .elt2 _ _ _ _,_,h,_=>by simp [bw,closed]at h
 |.tup l,v,h,hr=>rel.mono hle (HB.le.refl _) _ _ (rel_closed (.tup l) v h hr)
 |.fn f l,v,h,hr=>rel.mono hle (HB.le.refl _) _ _ (rel_closed (.fn f l) v h hr)
 |.fnb f l,v,h,hr=>rel.mono hle (HB.le.refl _) _ _ (rel_closed (.fnb f l) v h hr)
 |.ifc t s,v,h,hr=>rel.mono hle (HB.le.refl _) _ _ (rel_closed (.ifc t s) v h hr)
 |.any,v,h,hr=>rel.mono hle (HB.le.refl _) _ _ (rel_closed .any v h hr)
 |.num a b,v,h,hr=>rel.mono hle (HB.le.refl _) _ _ (rel_closed (.num a b) v h hr)
 |.bp a,v,h,hr=>rel.mono hle (HB.le.refl _) _ _ (rel_closed (.bp a) v h hr)
 |.bl a,v,h,hr=>rel.mono hle (HB.le.refl _) _ _ (rel_closed (.bl a) v h hr)
 |.str a,v,h,hr=>rel.mono hle (HB.le.refl _) _ _ (rel_closed (.str a) v h hr)
 |.nil,v,h,hr=>rel.mono hle (HB.le.refl _) _ _ (rel_closed .nil v h hr)
 |.psl a b,v,h,hr=>rel.mono hle (HB.le.refl _) _ _ (rel_closed (.psl a b) v h hr)
 |.ful a b,v,h,hr=>rel.mono hle (HB.le.refl _) _ _ (rel_closed (.ful a b) v h hr)
 |.pptr a,v,h,hr=>rel.mono hle (HB.le.refl _) _ _ (rel_closed (.pptr a) v h hr)
 |.raw a,v,h,hr=>rel.mono hle (HB.le.refl _) _ _ (rel_closed (.raw a) v h hr)
 |.shut a,v,h,hr=>rel.mono hle (HB.le.refl _) _ _ (rel_closed (.shut a) v h hr)
theorem bwL_ok {σ σf:PH} {β:List HB} {c:SV} (hle:PH.le σ σf) (hx:∀x,β[0]? =some x→rel σf [] c x.slice):∀(l:List SV) (vs:List Value),closedL (bwL c l)=true→relL σ β l vs→relL σf [] (bwL c l) vs
 |[],vs,_,h=>by simpa only [bwL,relL]using h
 |s::l,vs,h,hr=>by
  simp only [bwL,closedL,Bool.and_eq_true,relL]at*
  obtain⟨v,vs',e,h1,h2⟩:=hr
  exact⟨v,vs',e,bw_ok hle hx s v h.1 h1,bwL_ok hle hx l vs' h.2 h2⟩
end
theorem Ctr.borrowM {P:Program} {f:Nat} {args:List SV} {esz:Nat} {ms:List (List (List SV))} {post:SV→List Chunk→Prop} (hc:Ctr P f (bwL (.psl 1 (ms.map fun m=>[.psl esz m])) args) [] post)
  (hcl:closedL (bwL (.psl 1 (ms.map fun m=>[.psl esz m])) args)=true) (hf:∀r o,post r o→flatR r=true∧∀c∈o,flatC c):
  Ctr P f args [.mat esz ms] (fun r o=>∃r1 o1,post r1 o1∧r=shR 1 r1∧o= .mat esz ms::o1):=
 hc.borrow (fun w σ β vs hH hr=>by
  obtain⟨σf,h1,h2,h3⟩:=mat_frz hH
  exact⟨σf,h1,bwL_ok h2 h3 args vs hcl hr⟩) hf
end Go.Sx
