/- Lemmas of this seat. Conditions: as stated. -/
import Derived.Test.YtbcjojomkibgeaaGreatSxA
import Derived.Laws.StructEq
import Derived.Laws.BytesString
set_option linter.unusedVariables false
set_option linter.unusedSimpArgs false
section
namespace Go.Sx
theorem fold_set:∀(vs:List Value) (j off:Nat) (cells:List Value),off+j+vs.length≤cells.length→
  ((vs.zipIdx j).foldl (fun cs (p:Value×Nat)=>cs.set (off+p.2) p.1) cells)=cells.take (off+j)++vs++cells.drop (off+j+vs.length)
 |[],j,off,cells,_=>by simp
 |v::vs,j,off,cells,h=>by
  simp only [List.zipIdx_cons,List.foldl_cons]
  simp only [List.length_cons]at h
  rw [fold_set vs (j+1) off _ (by simp;omega)]
  have hlt:off+j<cells.length:=by omega
  have e1:(cells.set (off+j) v).take (off+(j+1))=cells.take (off+j)++[v]:=by
   rw [show off+(j+1)=off+j+1 by omega,List.take_succ_eq_append_getElem (by simpa using hlt)]
   simp [List.take_set_of_le]
  have e2:(cells.set (off+j) v).drop (off+(j+1)+vs.length)=cells.drop (off+j+(v::vs).length):=by
   rw [List.drop_set_of_lt (by omega)];congr 1;simp;omega
  rw [e1,e2];simp
theorem fill_step (vs:Array Value) (off:Nat) (cells:Array Value) (h:off+vs.size≤cells.size):
  (vs.zipIdx.foldl (fun cs (c,j)=>cs.setIfInBounds (off+j) c) cells).toList =cells.toList.take off++vs.toList++cells.toList.drop (off+vs.size):=by
 have key:∀(l:List (Value×Nat)) (cs:Array Value),(l.foldl (fun cs (c,j)=>cs.setIfInBounds (off+j) c) cs).toList =l.foldl (fun cs (p:Value×Nat)=>cs.set (off+p.2) p.1) cs.toList:=by
  intro l
  induction l with
  |nil=>intro cs;rfl
  |cons p l ih=>intro cs;simp only [List.foldl_cons];rw [ih];simp
 rw [←Array.foldl_toList,key]
 have:=fold_set vs.toList 0 off cells.toList (by simpa using h)
 simpa using this
theorem range_rows (z:Array Value) (n:Nat):((List.range (n*z.size)).map (z[· %z.size]!))=(List.replicate n z.toList).flatten :=by
 induction n with
 |zero=>simp
 |succ n ih=>
  rw [Nat.add_mul,Nat.one_mul,Nat.add_comm,List.range_add,List.map_append,List.replicate_succ,List.flatten_cons,List.map_map]
  congr 1
  ·apply List.ext_getElem
   ·simp
   ·intro i h1 h2
    have hi:i<z.size:=by simpa using h1
    simp only [List.getElem_map,List.getElem_range,Nat.mod_eq_of_lt hi]
    rw [getElem!_pos z i hi];simp
  ·rw [←ih]
   apply List.map_congr_left
   intro i _
   simp
def litRows (f:Operand→Option (List SV)) (esz len:Nat):List (Nat×Operand)→List (List SV)→Option (List (List SV))
 |[],rows=>some rows
 |(i,x)::ps,rows=>match f x with
  |some cs=>match Nat.beq cs.length esz && Nat.ble (i+1) len && closedL cs with
   |true=>litRows f esz len ps (rows.set i cs)
   |false=>none
  |none=>none
def litC (S:SS) (x:Operand):Option (List SV):=(nrm S.own (S.ev x)).cells
def litH (S:SS):Nat→List (Nat×Operand)→Option (Nat×List Nat×List (List (List SV)))
 |_,[]=>none
 |j,(i,x)::ps=>match Nat.beq i j with
  |true=>match nrm S.own (S.ev x)with
   |.vec h=>match S.own[h]? with
    |some (.vec e rows)=>match ps with
     |[]=>some (e,[h],[rows])
     |ps=>match litH S (j+1) ps with
      |some (e',hs,ms)=>match Nat.beq e e' with
       |true=>some (e,h::hs,rows::ms)
       |false=>none
      |none=>none
    |_=>none
   |_=>none
  |false=>none
def noDup:List Nat→Bool
 |[]=>true
 |h::l=> !(l.any fun k=>Nat.beq h k) && noDup l
def freeL (fr:Nat→Bool):List Nat→Bool
 |[]=>true
 |h::l=>fr h && freeL fr l
inductive LitOb (A B:Prop):Prop
 |vec (a:A):LitOb A B
 |ful (b:B):LitOb A B
def litS (E:Env) (S:SS) (t len:Nat) (parts:List (Nat×Operand)) (k:SS→SV→Prop):Prop:=
 need (elemD E t) fun de=>need (ofV de.zero).cells fun zr=>
  match okD de && Nat.ble (len*de.size) 16777216 with
  |true=>match litH S 0 parts with
   |some (e,hs,ms)=>match Nat.beq de.size 1 && Nat.beq len ms.length && noDup hs && freeL E.free hs with
    |true=>forceN S.own.length fun n=>forceL (killL hs S.own++[.mat e ms]) fun own=>S.withTm fun tm=>k ⟨tm,own⟩ (.vec n)
    |false=>False
   |none=>need (litRows (litC S) de.size len parts (List.replicate len zr)) fun rows=>forceR rows fun rows=>LitOb (forceN S.own.length fun n=>forceL (S.own++[.vec de.size rows]) fun own=>S.withTm fun tm=>k ⟨tm,own⟩ (.vec n)) (S.un fun tm own=>k ⟨tm,own⟩ (.ful de.size rows))
  |false=>False
theorem ofV_row {de:TyD} {zr:List SV} (h:(ofV de.zero).cells =some zr) (σ:PH):relL σ [] zr de.zero.cells.toList:=
 (cells_ok (σ:=σ) (β:=[]) h (rel_ofV σ [] de.zero)).1
theorem relLL_replicate {σ:PH} {zr:List SV} {z:List Value} (h:relL σ [] zr z):∀n,relLL σ (List.replicate n zr) (List.replicate n z)
 |0=>by simp [relLL]
 |n+1=>by simp only [List.replicate_succ];exact relLL_cons.2 ⟨h,relLL_replicate h n⟩
def setAll (a:Act):List (Nat×Operand)→List (List Value)→List (List Value)
 |[],vss=>vss
 |(i,x)::ps,vss=>setAll a ps (vss.set i (a.eval x).cells.toList)
theorem litRows_ok {σ:PH} {a:Act} {f:Operand→Option (List SV)} (hf:∀x cs,f x=some cs→closedL cs=true→relL σ [] cs (a.eval x).cells.toList ∧∀u∈(a.eval x).cells.toList,scalar u=true) {esz len:Nat}:∀(ps:List (Nat×Operand)) (rows:List (List SV)) (vss:List (List Value)) (cells:Array Value) {rows':List (List SV)},
  litRows f esz len ps rows=some rows'→relLL σ rows vss→(∀r∈rows,r.length=esz)→rows.length=len→cells.toList=vss.flatten→(∀u∈vss.flatten,scalar u=true)→
  ∃cells',Instr.fill (fun i=>some (i*esz,esz)) cells (ps.map fun(i,x)=>(i,a.eval x))=some cells'∧relLL σ rows' (setAll a ps vss)∧(∀r∈rows',r.length=esz)∧rows'.length=len∧
   cells'.toList=(setAll a ps vss).flatten ∧(∀u∈(setAll a ps vss).flatten,scalar u=true)
 |[],rows,vss,cells,rows',h,hr,hl,hn,hc,hs=>by
  simp only [litRows,Option.some.injEq]at h;subst h
  exact⟨cells,by simp [Instr.fill],hr,hl,hn,hc,hs⟩
 |(i,x)::ps,rows,vss,cells,rows',h,hr,hl,hn,hc,hs=>by
  simp only [litRows]at h
  split at h
  ·rename_i cs hcs
   split at h
   ·rename_i hb
    simp only [Bool.and_eq_true]at hb
    obtain⟨⟨hb1,hb2⟩,hb3⟩:=hb
    have hlen:=Nat.eq_of_beq_eq_true hb1
    have hi:=Nat.le_of_ble_eq_true hb2
    obtain⟨hrv',hsv⟩:=hf x cs hcs hb3
    have hsz:(a.eval x).cells.size =esz:=by rw [←Array.length_toList,relL_length hrv',hlen]
    have hvl:=relLL_length hr
    have hilt:i<vss.length:=by omega
    have hrows:=relLL_rows hr hl
    have hfl:vss.flatten.length=vss.length*esz:=flat_length hrows
    have hcsz:cells.size=vss.length*esz:=by rw [←Array.length_toList,hc,hfl]
    have hoff:i*esz+esz≤cells.size:=by
     rw [hcsz];have:(i+1)*esz≤vss.length*esz:=Nat.mul_le_mul_right _ hilt
     rw [Nat.add_mul,Nat.one_mul]at this;exact this
    obtain⟨ef,hl1⟩:=flat_split hrows (List.getElem?_eq_getElem hilt)
    have hm:(vss[i]).length =esz:=hrows _ (List.getElem_mem hilt)
    have hset:(vss.set i (a.eval x).cells.toList).flatten =(vss.take i).flatten ++(a.eval x).cells.toList ++(vss.drop (i+1)).flatten :=by
     rw [List.set_eq_take_append_cons_drop,if_pos hilt];simp
    have hnew:((a.eval x).cells.zipIdx.foldl (fun cs (c,j)=>cs.setIfInBounds (i*esz+j) c) cells).toList =(vss.set i (a.eval x).cells.toList).flatten :=by
     rw [fill_step _ _ _ (by omega),hc,hset,ef,hsz]
     rw [List.append_assoc (vss.take i).flatten,List.take_left' hl1]
     congr 1
     rw [←List.append_assoc,List.drop_left' (by simp [hl1,hm])]
    obtain⟨cells',h1,h2,h3,h4,h5,h6⟩:=litRows_ok hf ps (rows.set i cs) (vss.set i (a.eval x).cells.toList) _ h (relLL_set hr hrv') (by
      intro r hr';rcases List.mem_or_eq_of_mem_set hr' with h|rfl
      ·exact hl r h
      ·exact hlen) (by simpa using hn) hnew (by
      intro u hu;rw [hset]at hu
      simp only [List.mem_append]at hu
      rcases hu with(hu|hu)|hu
      ·exact hs u (by rw [ef];simp [hu])
      ·exact hsv u hu
      ·exact hs u (by rw [ef];simp [hu]))
    refine⟨cells',?_,h2,h3,h4,h5,h6⟩
    simp only [List.map_cons,Instr.fill]
    rw [if_neg (by simp [hsz];omega)]
    exact h1
   ·cases h
  ·cases h
theorem noDup_ok:∀{l:List Nat},noDup l=true→l.Nodup
 |[],_=>by simp
 |h::l,e=>by
  simp only [noDup,Bool.and_eq_true,Bool.not_eq_true',←Bool.not_eq_true]at e
  rw [List.nodup_cons]
  refine⟨fun hm=>e.1 ?_,noDup_ok e.2⟩
  exact List.any_eq_true.2 ⟨h,hm,Nat.beq_refl h⟩
theorem freeL_ok {fr:Nat→Bool}:∀{l:List Nat},freeL fr l=true→∀h∈l,fr h=true
 |[],_,h,hh=>by simp at hh
 |x::l,e,h,hh=>by
  simp only [freeL,Bool.and_eq_true]at e
  rcases List.mem_cons.1 hh with rfl|hh
  ·exact e.1
  ·exact freeL_ok e.2 h hh
inductive Parts (β:List HB) (own:List Chunk) (a:Act) (e:Nat):Nat→List (Nat×Operand)→List Nat→List (List (List SV))→List HB→Prop
 |nil (j:Nat):Parts β own a e j [] [] [] []
 |cons {j h:Nat} {x:Operand} {rows:List (List SV)} {xb:HB} {ps hs ms xs} (hx:β[h]? =some xb) (hv:a.eval x=xb.slice) (hc:own[h]? =some (.vec e rows)) (t:Parts β own a e (j+1) ps hs ms xs):Parts β own a e j ((j,x)::ps) (h::hs) (rows::ms) (xb::xs)
theorem litH_ok {w0 σ0 β0 nt σ β S a w} (g:GG w0 σ0 β0 nt σ β S a w):∀(ps:List (Nat×Operand)) (j:Nat) {e:Nat} {hs:List Nat} {ms:List (List (List SV))},litH S j ps=some (e,hs,ms)→∃xs,Parts β S.own a e j ps hs ms xs
 |[],j,e,hs,ms,h=>by simp [litH]at h
 |(i,x)::ps,j,e,hs,ms,h=>by
  unfold litH at h
  split at h
  ·rename_i hij
   have:=Nat.eq_of_beq_eq_true hij;subst this
   split at h
   ·rename_i hh hx
    have hr:=rel_nrm g.hp _ _ (g.ev x)
    rw [hx]at hr
    simp only [rel]at hr
    obtain⟨xb,hxb,hv⟩:=hr
    split at h
    ·rename_i e0 rows hc
     split at h
     ·cases h
      exact⟨[xb], .cons hxb hv hc (.nil _)⟩
     ·split at h
      ·rename_i e' hs' ms' ht
       split at h
       ·rename_i hee
        have:=Nat.eq_of_beq_eq_true hee;subst this
        cases h
        obtain⟨xs,hp⟩:=litH_ok g ps _ ht
        exact⟨xb::xs, .cons hxb hv hc hp⟩
       ·cases h
      ·cases h
    ·cases h
   ·cases h
  ·cases h
theorem Parts.len {β own a e j ps hs ms xs} (h:Parts β own a e j ps hs ms xs):ps.length=ms.length∧hs.length=ms.length∧xs.length=ms.length:=by
 induction h with
 |nil=>simp
 |cons _ _ _ _ ih=>simp [ih.1,ih.2.1,ih.2.2]
theorem Parts.at {β own a e j ps hs ms xs} (h:Parts β own a e j ps hs ms xs):∀(i:Nat) (x:HB),xs[i]? =some x→∃hd rows,hs[i]? =some hd∧ms[i]? =some rows∧β[hd]? =some x∧own[hd]? =some (.vec e rows):=by
 induction h with
 |nil=>intro i x hx;simp at hx
 |@cons j h x rows xb ps hs ms xs hx hv hc t ih=>
  intro i y hy
  cases i with
  |zero=>simp at hy;subst hy;exact⟨h,rows,by simp,by simp,hx,hc⟩
  |succ i=>simp at hy;obtain⟨hd,r,h1,h2,h3,h4⟩:=ih i y hy;exact⟨hd,r,by simpa using h1,by simpa using h2,h3,h4⟩
theorem Parts.mem {β own a e j ps hs ms xs} (h:Parts β own a e j ps hs ms xs):∀hd∈hs,∃rows,own[hd]? =some (.vec e rows):=by
 induction h with
 |nil=>intro hd hh;simp at hh
 |cons hx hv hc t ih=>
  intro hd hh
  rcases List.mem_cons.1 hh with rfl|hh
  ·exact⟨_,hc⟩
  ·exact ih hd hh
theorem Parts.set {β own a e j ps hs ms xs} (h:Parts β own a e j ps hs ms xs):∀(pre:List (List Value)) (z:List Value),pre.length=j→setAll a ps (pre++List.replicate ps.length z)=pre++xs.map fun x=>[x.slice]:=by
 induction h with
 |nil=>intro pre z _;simp [setAll]
 |@cons j h x rows xb ps hs ms xs hx hv hc t ih=>
  intro pre z hp
  simp only [setAll,List.length_cons,List.replicate_succ,List.map_cons]
  have e1:(pre++z::List.replicate ps.length z).set j (a.eval x).cells.toList =(pre++[[xb.slice]])++List.replicate ps.length z:=by
   rw [List.set_append_right _ _ (by omega),hp,Nat.sub_self,hv]
   simp [HB.slice,Value.cells]
  rw [e1,ih (pre++[[xb.slice]]) z (by simp [hp])]
  simp
theorem Parts.rows {β own a e j ps hs ms xs} (h:Parts β own a e j ps hs ms xs) (len:Nat):∀(rows:List (List SV)),j+ps.length≤len→∃rows',litRows (fun x=>if scalar (a.eval x)then some [SV.any]else none) 1 len ps rows=some rows':=by
 induction h with
 |nil=>intro rows _;exact⟨rows,by simp [litRows]⟩
 |@cons j h x rows xb ps hs ms xs hx hv hc t ih=>
  intro rs hl
  simp only [List.length_cons]at hl
  obtain⟨r',hr⟩:=ih (rs.set j [SV.any]) (by omega)
  refine⟨r',?_⟩
  simp only [litRows]
  rw [if_pos (by rw [hv];rfl)]
  simp only [List.length_cons,List.length_nil]
  rw [show(Nat.beq (0+1) 1 && Nat.ble (j+1) len && closedL [SV.any])=true by simp [Nat.beq,closedL,closed];omega]
  exact hr
theorem GG.newFul {w0 σ0 β0 nt σ β S a w} (g:GG w0 σ0 β0 nt σ β S a w) {esz:Nat} {rows:List (List SV)} {vss:List (List Value)}
  (hr:relLL σ rows vss) (hrl:∀r∈rows,r.length=esz) (hsc:∀u∈vss.flatten,scalar u=true) (T:TypeId):
  ∃σ',GG w0 σ0 β0 nt σ' β S a (w.alloc (.cells vss.flatten.toArray T))∧rel σ' β (.ful esz rows) (.slice (some ⟨w.heap.size,0,none⟩) rows.length rows.length):=by
 have hno:=g.hp.no (Nat.le_refl w.heap.size)
 let σ':PH:=fun b=>if b=w.heap.size then some vss.flatten else σ b
 have hle:PH.le σ σ':=by
  intro k c hk
  have:k≠w.heap.size:=by rintro rfl;rw [hno]at hk;cases hk
  simp only [σ',if_neg this];exact hk
 have hl:=relLL_length hr
 refine⟨σ',⟨g.tm.mono hle (HB.le.refl _),g.sz,g.df,⟨?_,g.hp.len,?_,?_,g.hp.apart,?_⟩,?_,g.pn.alloc _⟩,?_⟩
 ·intro b cs hb
  by_cases h:b=w.heap.size
  ·subst h;simp [σ']at hb;subst hb;exact⟨T,_,heap_alloc_new _ _⟩
  ·simp only [σ',if_neg h]at hb
   obtain⟨T',fz,e⟩:=g.hp.ph b cs hb
   exact⟨T',fz,by rw [heap_alloc_lt w _ (lt_of_get e)];exact e⟩
 ·intro i c x hc hx
  refine chunkOK.step hle (HB.le.refl _) (g.hp.ok i c x hc hx) (fun hl b hb h=>?_) (fun hl b hb=>heap_alloc_lt w _ (g.hp.lt i x b hx hb))
  have:b≠w.heap.size:=by have:=g.hp.lt i x b hx hb;omega
  simp only [σ',if_neg this];exact h
 ·intro i x b hx hb;have:=g.hp.lt i x b hx hb;simp;omega
 ·intro i c x b hc hl hx hb
  have:b≠w.heap.size:=by have:=g.hp.lt i x b hx hb;omega
  simp only [σ',if_neg this];exact g.hp.psn i c x b hc hl hx hb
 ·have F:=g.fr.alloc (.cells vss.flatten.toArray T)
  refine⟨F.os,F.tape,F.output,F.size,F.block,F.le.trans hle,?_,F.pre,F.fresh⟩
  intro b cs hb hlt
  by_cases h:b=w.heap.size
  ·have:=g.fr.size;omega
  ·simp only [σ',if_neg h]at hb;exact g.fr.new b cs hb hlt
 ·simp only [rel]
  exact⟨_,vss,rfl,relLL.mono hle _ _ hr,hrl, .inr ⟨w.heap.size,0,rfl,hsc,[],[],by simp [σ'],rfl⟩⟩
theorem litS_ok {E:Env} (hE:EnvOK E) {w0 σ0 β0 nt σ β S a w} (g:GG w0 σ0 β0 nt σ β S a w) (hfx:E.free=nt.free) {t len:Nat} {parts:Array (Nat×Operand)} {k:SS→SV→Prop} (h:litS E S t len parts.toList k):
  ∃v w' σ' β' S' s,(Instr.buildSlice t len (parts.map fun(i,x)=>(i,a.eval x))).run E.P w= .ok v w'∧GG w0 σ0 β0 nt σ' β' S' a w'∧rel σ' β' s v∧k S' s:=by
 obtain⟨de,hde,h1⟩:=need_some h
 clear h
 obtain⟨zr,hzr,h⟩:=need_some h1
 clear h1
 obtain⟨d,e,hT,hd,he⟩:=elemD_ok hE hde
 split at h
 ·rename_i hok
  rw [Bool.and_eq_true]at hok
  obtain⟨hz1,hz2⟩:=okD_ok hok.1
  have hble:=Nat.le_of_ble_eq_true hok.2
  have hrow:=ofV_row hzr σ
  have hzl:zr.length=de.size:=by rw [←relL_length hrow,Array.length_toList,hz1]
  have hz:∀u∈(List.replicate len de.zero.cells.toList).flatten,scalar u=true:=by
   intro u hu
   simp only [List.mem_flatten,List.mem_replicate]at hu
   obtain⟨l,⟨_,rfl⟩,hu⟩:=hu
   rw [List.all_eq_true]at hz2;exact hz2 u hu
  have hcells:((Array.range (len*de.size)).map (de.zero.cells[· %de.zero.cells.size]!)).toList =(List.replicate len de.zero.cells.toList).flatten :=by
   rw [Array.toList_map,Array.toList_range,←hz1,range_rows]
  have hu:=hT.2
  rw [hd]at hu
  have hrun:∀{cells':Array Value},Instr.fill (fun i=>some (i*de.size,de.size)) ((Array.range (len*de.size)).map (de.zero.cells[· %de.zero.cells.size]!)) (parts.toList.map fun(i,x)=>(i,a.eval x))=some cells'→
    (Instr.buildSlice t len (parts.map fun(i,x)=>(i,a.eval x))).run E.P w= .ok (.slice (some ⟨w.heap.size,0,none⟩) len len) (w.alloc (.cells cells' e)):=by
   intro cells' h1
   obtain⟨⟨i,hi,hsz,hby,hzz⟩,_⟩:=he
   have hnb:¬(16777216<len*de.size):=by omega
   by_cases h0:len*de.size=0
   ·have hc0:((Array.range (len*de.size)).map ((#[]:Array Value)[· %(#[]:Array Value).size]!))=((Array.range (len*de.size)).map (de.zero.cells[· %de.zero.cells.size]!)):=by
     rw [h0];simp [Array.range_zero']
    rw [←hc0,h0]at h1
    simp [Instr.buildSlice,run_underlying hu,sizeOf,typeInfo,hi,hsz,h0,newRow]
    simp at h1
    rw [h1];simp
   ·simp [Instr.buildSlice,run_underlying hu,sizeOf,typeInfo,zeroValue,hi,hsz,hzz,h0,hnb,newRow]
    simp at h1
    rw [h1];simp
  split at h
  ·rename_i e0 hs ms hlit
   split at h
   ·rename_i hck
    simp only [Bool.and_eq_true]at hck
    obtain⟨⟨⟨hsz1,hln⟩,hnd⟩,hfr⟩:=hck
    have hsz1:=Nat.eq_of_beq_eq_true hsz1
    have hln:=Nat.eq_of_beq_eq_true hln
    have hnd:=noDup_ok hnd
    have hfr:=freeL_ok hfr
    have hk:=forceN_ok h
    simp only [forceL_eq,SS.withTm_eq]at hk
    obtain⟨xs,hp⟩:=litH_ok g _ _ hlit
    obtain⟨hl1,hl2,hl3⟩:=hp.len
    obtain⟨rows',hrows⟩:=hp.rows len (List.replicate len zr) (by omega)
    rw [←hsz1]at hrows
    have hf:∀(x:Operand) (cs:List SV),(fun x=>if scalar (a.eval x)then some [SV.any]else none) x=some cs→closedL cs=true→relL σ [] cs (a.eval x).cells.toList ∧∀u∈(a.eval x).cells.toList,scalar u=true:=by
     intro x cs h _
     simp only at h
     split at h
     ·rename_i hsc;cases h
      rw [scalar_cells hsc]
      exact⟨relL_cons.2 ⟨by simp [rel],by simp [relL]⟩,by intro u hu;simp at hu;subst hu;exact hsc⟩
     ·cases h
    obtain⟨cells',h1,h2,h3,h4,h5,h6⟩:=litRows_ok (σ:=σ) hf parts.toList _ (List.replicate len de.zero.cells.toList) _ hrows (relLL_replicate hrow len)
     (by intro r hr;rw [List.mem_replicate]at hr;rw [hr.2];exact hzl) (by simp) hcells hz
    have hset:=hp.set [] de.zero.cells.toList rfl
    rw [List.nil_append,List.nil_append,hl1,←hln]at hset
    rw [hset]at h5 h6
    have hfl:(xs.map fun x=>[x.slice]).flatten =xs.map HB.slice:=by
     generalize xs=l
     induction l with
     |nil=>rfl
     |cons y l ih=>simp only [List.map_cons,List.flatten_cons,ih];rfl
    rw [hfl]at h5 h6
    let toI:HB→HI:=fun x=>⟨x.blk,x.esz,x.len,x.cap,x.z⟩
    have hinn:(xs.map toI).map HI.slice=xs.map HB.slice:=by rw [List.map_map];rfl
    have hmem:∀b,b∈(xs.map toI).filterMap (·.blk)→ofHs β hs b:=by
     intro b hb
     simp only [List.mem_filterMap,List.mem_map]at hb
     obtain⟨y,⟨x,hx,rfl⟩,hb⟩:=hb
     obtain⟨i,hi⟩:=List.getElem?_of_mem hx
     obtain⟨hd',rows,q1,q2,q3,q4⟩:=hp.at i x hi
     exact⟨hd',List.mem_of_getElem? q1,x,q3,HB.blk_mem hb⟩
    have hlive:∀h∈hs,nt.free h=true∧∃c,S.own[h]? =some c∧live c=true:=by
     intro h hm
     obtain⟨rows,hc⟩:=hp.mem h hm
     exact⟨by rw [←hfx];exact hfr h hm,_,hc,rfl⟩
    have hold:∀b,ofHs β hs b→b<w.heap.size:=by rintro b ⟨h,hh,x,hx,hb⟩;exact g.hp.lt h x b hx hb
    have hndi:((xs.map toI).filterMap (·.blk)).Nodup :=by
     have:∀(l:List HB) (q:List Nat),l.length=q.length→(∀(i:Nat) (x:HB),l[i]? =some x→∃hd',q[i]? =some hd'∧hd'∈hs∧β[hd']? =some x)→q.Nodup→((l.map toI).filterMap (·.blk)).Nodup :=by
      intro l
      induction l with
      |nil=>intro q _ _ _;simp
      |cons x l ih=>
       intro q hq hat hnq
       cases q with
       |nil=>simp at hq
       |cons hd0 q=>
        rw [List.nodup_cons]at hnq
        have ih':=ih q (by simpa using hq) (fun i y hy=>by obtain⟨d1,q1,q2⟩:=hat (i+1) y (by simpa using hy);exact⟨d1,by simpa using q1,q2⟩) hnq.2
        simp only [List.map_cons,List.filterMap_cons]
        cases hxb:x.blk with
        |none=>simpa [toI,hxb]using ih'
        |some b=>
         simp only [toI,hxb,List.nodup_cons]
         refine⟨fun hb=>?_,ih'⟩
         simp only [List.mem_filterMap,List.mem_map]at hb
         obtain⟨y,⟨z,hz,rfl⟩,hb⟩:=hb
         obtain⟨i,hi⟩:=List.getElem?_of_mem hz
         obtain⟨d1,q1,q2,q3⟩:=hat (i+1) z (by simpa using hi)
         obtain⟨d0,p1,p2,p3⟩:=hat 0 x (by simp)
         simp at p1 q1;subst p1
         obtain⟨r1,c1⟩:=hp.mem _ q2
         obtain⟨r0,c0⟩:=hp.mem _ p2
         have:=g.hp.apart _ _ _ _ x z b c0 c1 rfl rfl p3 q3 (HB.blk_mem hxb) (HB.blk_mem hb)
         subst this
         exact hnq.1 (List.mem_of_getElem? q1)
     refine this xs hs (by omega) (fun i x hx=>?_) hnd
     obtain⟨hd',rows,q1,q2,q3,q4⟩:=hp.at i x hx
     exact⟨hd',q1,List.mem_of_getElem? q1,q3⟩
    have hblks:(⟨some w.heap.size,1,len,len,none,xs.map toI⟩:HB).blks =w.heap.size::(xs.map toI).filterMap (·.blk):=rfl
    refine⟨_,_,_,_,_,_,hrun h1,g.succL (hs:=hs) (x':=⟨some w.heap.size,1,len,len,none,xs.map toI⟩) (c:= .mat e0 ms) hlive (by simp) ⟨rfl,rfl,rfl⟩ (fun b hb _=>heap_alloc_lt w _ hb) ?_ (mat_mk rfl ?_ ⟨hln,by simp [hl3],?_, .inr ⟨w.heap.size,[],rfl,g.hp.no (Nat.le_refl _),⟨?_,e,?_⟩,by rw [hln];exact Nat.le_refl _,by simp [hln]⟩⟩),?_,hk⟩
    ·intro b hb
     rw [hblks]at hb
     rcases List.mem_cons.1 hb with rfl|hb
     ·exact .inr ⟨Nat.le_refl _,by simp⟩
     ·exact .inl (hmem b hb)
    ·rw [hblks,List.nodup_cons]
     exact⟨fun hb=>by have:=hold _ (hmem _ hb);omega,hndi⟩
    ·intro i y m hy hm
     simp only [List.getElem?_map,Option.map_eq_some_iff]at hy
     obtain⟨x,hx,rfl⟩:=hy
     obtain⟨hd',rows,q1,q2,q3,q4⟩:=hp.at i x hx
     rw [hm]at q2;cases q2
     have hck:=g.hp.ok _ _ _ q4 q3
     exact⟨hck.1,VecOK.step (PH.le.refl _) hck.2 (fun _ _ h=>h) (fun b hb=>heap_alloc_lt w _ (g.hp.lt _ x b q3 (HB.blk_mem hb)))⟩
    ·intro u hu;rw [hinn]at hu;exact h6 u (by simpa using hu)
    ·rw [heap_alloc_new,hinn];congr 2;apply Array.ext';simp [h5]
    ·simp only [rel]
     exact⟨_,by rw [←g.hp.len,List.getElem?_append_right (Nat.le_refl _),Nat.sub_self];rfl,by simp [HB.slice,adr]⟩
   ·exact h.elim
  ·obtain⟨rows,hrows,hk⟩:=need_some h
   rw [forceR_eq]at hk
   have hf:∀x cs,litC S x=some cs→closedL cs=true→relL σ [] cs (a.eval x).cells.toList ∧∀u∈(a.eval x).cells.toList,scalar u=true:=by
    intro x cs hcs hcl
    obtain⟨hrv,hsv⟩:=cells_ok hcs (rel_nrm g.hp _ _ (g.ev x))
    exact⟨relL_closed _ _ hcl hrv,hsv⟩
   obtain⟨cells',h1,h2,h3,h4,h5,h6⟩:=litRows_ok (σ:=σ) hf parts.toList _ (List.replicate len de.zero.cells.toList) _ hrows (relLL_replicate hrow len)
    (by intro r hr;rw [List.mem_replicate]at hr;rw [hr.2];exact hzl) (by simp) hcells hz
   have hfl:(setAll a parts.toList (List.replicate len de.zero.cells.toList)).flatten.length =len*de.size:=by rw [flat_length (relLL_rows h2 h3),relLL_length h2,h4]
   have hrun:=hrun h1
   cases hk with
   |vec hk=>
    have hk:=forceN_ok hk
    simp only [forceL_eq,SS.withTm_eq]at hk
    have hg:=g.newVec (esz:=de.size) (cap:=len) (rest:=[]) h2 h3 (by omega) (by rw [hfl];simp) (by simpa using h6) e
    have ec:cells'=((setAll a parts.toList (List.replicate len de.zero.cells.toList)).flatten ++[]).toArray :=by apply Array.ext';simp [h5]
    rw [ec]at hrun
    refine⟨_,_,_,_,_,_,hrun,hg,?_,hk⟩
    simp only [rel]
    refine⟨hb4 (some w.heap.size) de.size rows.length len,by simp [←g.hp.len],by simp [HB.slice,adr,h4]⟩
   |ful hk=>
    rw [SS.un_eq]at hk
    obtain⟨σ',hg,hr⟩:=g.newFul h2 h3 h6 e
    have ec:cells'=(setAll a parts.toList (List.replicate len de.zero.cells.toList)).flatten.toArray :=by apply Array.ext';simp [h5]
    rw [ec]at hrun
    rw [h4]at hr
    exact⟨_,_,_,_,_,_,hrun,hg,hr,hk⟩
 ·exact h.elim
def stcCells (E:Env) (S:SS) (fs:Array Field):List (Nat×Operand)→List SV→Option (List SV)
 |[],cs=>some cs
 |(i,x)::ps,cs=>match fs[i]?,(nrm S.own (S.ev x)).cells with
  |some f,some vs=>match look E.tys f.type with
   |some df=>match Nat.beq vs.length df.size && Nat.ble (f.offset+df.size) cs.length with
    |true=>stcCells E S fs ps (spl f.offset vs cs)
    |false=>none
   |none=>none
  |_,_=>none
def allKnown (E:Env):List Field→Bool
 |[]=>true
 |f::fs=>(look E.tys f.type).isSome && allKnown E fs
def arrCells (S:SS) (sz:Nat):List (Nat×Operand)→List SV→Option (List SV)
 |[],cs=>some cs
 |(i,x)::ps,cs=>match(nrm S.own (S.ev x)).cells with
  |some vs=>match Nat.beq vs.length sz && Nat.ble (i*sz+sz) cs.length with
   |true=>arrCells S sz ps (spl (i*sz) vs cs)
   |false=>none
  |none=>none
def stcS (E:Env) (S:SS) (t:Nat) (parts:List (Nat×Operand)) (k:SV→Prop):Prop:=
 need (look E.tys t) fun d=>
  match d.desc with
  |.struct fs=>match allKnown E fs.toList with
   |true=>need (ofV d.zero).cells fun zc=>need (stcCells E S fs parts zc) fun cs=>forceVL cs fun cs=>k (.agg cs)
   |false=>False
  |.array _ e=>need (look E.tys e) fun de=>need (ofV d.zero).cells fun zc=>need (arrCells S de.size parts zc) fun cs=>forceVL cs fun cs=>k (.agg cs)
  |_=>False
def placesOf (E:Env) (fs:List Field):List (Nat×Nat):=fs.map fun f=>(f.offset,((look E.tys f.type).map (·.size)).getD 0)
theorem places_ok {E:Env} (hE:EnvOK E):∀(fs:List Field),allKnown E fs=true→fs.mapM (fun f=>(E.P.info? f.type).map fun i=>(f.offset,i.size))=some (placesOf E fs)
 |[],_=>by simp [placesOf]
 |f::fs,h=>by
  simp only [allKnown,Bool.and_eq_true]at h
  obtain⟨df,hdf⟩:=Option.isSome_iff_exists.1 h.1
  obtain⟨⟨i,hi,hs,_,_⟩,_⟩:=look_ok hE hdf
  simp only [List.mapM_cons,hi,Option.map_some,Option.bind_eq_bind,Option.bind_some,places_ok hE fs h.2]
  simp [placesOf,hdf,hs]
theorem stcCells_ok {E:Env} {w0 σ0 β0 nt σ β S a w} (g:GG w0 σ0 β0 nt σ β S a w) {fs:Array Field}:∀(ps:List (Nat×Operand)) (cs:List SV) (cells:Array Value) {cs':List SV},
  stcCells E S fs ps cs=some cs'→relL σ β cs cells.toList→
  ∃cells',Instr.fill ((placesOf E fs.toList).toArray[·]?) cells (ps.map fun(i,x)=>(i,a.eval x))=some cells'∧relL σ β cs' cells'.toList
 |[],cs,cells,cs',h,hr=>by
  simp only [stcCells,Option.some.injEq]at h;subst h
  exact⟨cells,by simp [Instr.fill],hr⟩
 |(i,x)::ps,cs,cells,cs',h,hr=>by
  simp only [stcCells]at h
  split at h
  ·rename_i f vs hf hvs
   split at h
   ·rename_i df hdf
    split at h
    ·rename_i hb
     rw [Bool.and_eq_true]at hb
     have hlen:=Nat.eq_of_beq_eq_true hb.1
     have hle:=Nat.le_of_ble_eq_true hb.2
     obtain⟨hrv,hsv⟩:=cells_ok hvs (rel_nrm g.hp _ _ (g.ev x))
     have hsz:(a.eval x).cells.size =df.size:=by rw [←Array.length_toList,relL_length hrv,hlen]
     have hcl:=relL_length hr
     have hcsz:cells.size=cs.length:=by rw [←hcl];simp
     have hnew:relL σ β (spl f.offset vs cs) ((a.eval x).cells.zipIdx.foldl (fun cs (c,j)=>cs.setIfInBounds (f.offset+j) c) cells).toList :=by
      rw [fill_step _ _ _ (by omega)]
      unfold spl
      rw [hlen,hsz]
      exact relL_append (relL_append (relL_take _ hr) hrv) (relL_drop _ hr)
     obtain⟨cells',h1,h2⟩:=stcCells_ok g ps _ _ h hnew
     refine⟨cells',?_,h2⟩
     simp only [List.map_cons,Instr.fill]
     have hpl:(placesOf E fs.toList).toArray[i]? =some (f.offset,df.size):=by
      simp [placesOf,List.getElem?_map,hf,hdf]
     rw [hpl]
     simp only
     rw [if_neg (by simp [hsz];omega)]
     exact h1
    ·cases h
   ·cases h
  ·cases h
theorem arrCells_ok {E:Env} {w0 σ0 β0 nt σ β S a w} (g:GG w0 σ0 β0 nt σ β S a w) {sz:Nat}:∀(ps:List (Nat×Operand)) (cs:List SV) (cells:Array Value) {cs':List SV},
  arrCells S sz ps cs=some cs'→relL σ β cs cells.toList→
  ∃cells',Instr.fill (fun i=>some (i*sz,sz)) cells (ps.map fun(i,x)=>(i,a.eval x))=some cells'∧relL σ β cs' cells'.toList
 |[],cs,cells,cs',h,hr=>by
  simp only [arrCells,Option.some.injEq]at h;subst h
  exact⟨cells,by simp [Instr.fill],hr⟩
 |(i,x)::ps,cs,cells,cs',h,hr=>by
  simp only [arrCells]at h
  split at h
  ·rename_i vs hvs
   split at h
   ·rename_i hb
    rw [Bool.and_eq_true]at hb
    have hlen:=Nat.eq_of_beq_eq_true hb.1
    have hle:=Nat.le_of_ble_eq_true hb.2
    obtain⟨hrv,hsv⟩:=cells_ok hvs (rel_nrm g.hp _ _ (g.ev x))
    have hsz:(a.eval x).cells.size =sz:=by rw [←Array.length_toList,relL_length hrv,hlen]
    have hcl:=relL_length hr
    have hcsz:cells.size=cs.length:=by rw [←hcl];simp
    have hnew:relL σ β (spl (i*sz) vs cs) ((a.eval x).cells.zipIdx.foldl (fun cs (c,j)=>cs.setIfInBounds (i*sz+j) c) cells).toList :=by
     rw [fill_step _ _ _ (by omega)]
     unfold spl
     rw [hlen,hsz]
     exact relL_append (relL_append (relL_take _ hr) hrv) (relL_drop _ hr)
    obtain⟨cells',h1,h2⟩:=arrCells_ok (E:=E) g ps _ _ h hnew
    refine⟨cells',?_,h2⟩
    simp only [List.map_cons,Instr.fill]
    rw [if_neg (by simp [hsz];omega)]
    exact h1
   ·cases h
  ·cases h
theorem stcS_ok {E:Env} (hE:EnvOK E) {w0 σ0 β0 nt σ β S a w} (g:GG w0 σ0 β0 nt σ β S a w) {t:Nat} {parts:Array (Nat×Operand)} {k:SV→Prop} (h:stcS E S t parts.toList k):
  ∃v s,(∀w,(Instr.build t (parts.map fun(i,x)=>(i,a.eval x))).run E.P w= .ok v w)∧rel σ β s v∧k s:=by
 obtain⟨d,hd,h1⟩:=need_some h
 clear h
 have hT:=look_ok hE hd
 split at h1
 ·rename_i fs hfs
  split at h1
  ·rename_i hall
   obtain⟨zc,hzc,h2⟩:=need_some h1
   clear h1
   obtain⟨cs,hcs,hk⟩:=need_some h2
   simp only [forceVL_eq]at hk
   have hzr:=(cells_ok (σ:=σ) (β:=β) hzc (rel_ofV σ β d.zero)).1
   obtain⟨cells',hf,hr⟩:=stcCells_ok (E:=E) g parts.toList zc _ hcs hzr
   obtain⟨⟨i,hi,hs,hby,hz⟩,hu⟩:=hT
   rw [hfs]at hu
   refine⟨.agg cells', .agg cs,fun w=>run_build w t _ cells' ?_,by simp only [rel];exact⟨cells'.toList,by simp,hr⟩,hk⟩
   unfold Program.built
   simp only [hi,hu,hz,places_ok hE _ hall]
   simpa using hf
  ·exact h1.elim
 ·rename_i len e hfs
  obtain⟨de,hde,h1⟩:=need_some h1
  obtain⟨zc,hzc,h2⟩:=need_some h1
  clear h1
  obtain⟨cs,hcs,hk⟩:=need_some h2
  simp only [forceVL_eq]at hk
  have hzr:=(cells_ok (σ:=σ) (β:=β) hzc (rel_ofV σ β d.zero)).1
  obtain⟨cells',hf,hr⟩:=arrCells_ok (E:=E) g parts.toList zc _ hcs hzr
  obtain⟨⟨i,hi,hs,hby,hz⟩,hu⟩:=hT
  rw [hfs]at hu
  obtain⟨⟨ie,hie,hes,_,_⟩,_⟩:=look_ok hE hde
  refine⟨.agg cells', .agg cs,fun w=>run_build w t _ cells' ?_,by simp only [rel];exact⟨cells'.toList,by simp,hr⟩,hk⟩
  unfold Program.built
  simp only [hi,hu,hz,hie,hes]
  simpa using hf
 ·exact h1.elim
end Go.Sx
end
section
namespace Go.Sx
inductive MakeOb (A B:Prop):Prop
 |vec (a:A):MakeOb A B
 |mat (b:B):MakeOb A B
def innD (E:Env) (de:TyD) (zr:List SV):Option Nat:=
 match de.desc with
 |.slice e=>match look E.tys e with
  |some d=>match zr with
   |[.nil]=>some d.size
   |_=>none
  |none=>none
 |_=>none
def makeS (E:Env) (S:SS) (t:Nat) (l c:SV) (k:SS→SV→Prop):Prop:=
 need (elemD E t) fun de=>need (ofV de.zero).cells fun zr=>
  match okD de with
  |true=>match l,c with
   |.num _ nl, .num _ nc=>∃n m:Nat,nl=n∧nc=m∧n≤m∧(de.bytes*m≤140737488355328∧m≤140737488355328)∧
     forceN S.own.length fun q=>match innD E de zr with
      |some e=>MakeOb (forceL (S.own++[.vec de.size (List.replicate n zr)]) fun own=>S.withTm fun tm=>k ⟨tm,own⟩ (.vec q)) (forceL (S.own++[.mat e (List.replicate n [])]) fun own=>S.withTm fun tm=>k ⟨tm,own⟩ (.vec q))
      |none=>forceL (S.own++[.vec de.size (List.replicate n zr)]) fun own=>S.withTm fun tm=>k ⟨tm,own⟩ (.vec q)
   |_,_=>False
  |false=>False
theorem makeS_ok {E : Env} (hE : EnvOK E) {w0 σ0 β0 nt σ β S a w} (g : GG w0 σ0 β0 nt σ β S a w) {t : Nat} {sl sc : SV} {vl vc : Value} {k : SS → SV → Prop} (h : makeS E S t sl sc k) (hl : rel σ β sl vl) (hc : rel σ β sc vc) :
    ∃ v w' β' S' s, (Instr.makeSlice t vl vc).run E.P w = .ok v w' ∧ GG w0 σ0 β0 nt σ β' S' a w' ∧ rel σ β' s v ∧ k S' s := by
  obtain ⟨de, hde, h1⟩ := need_some h
  clear h
  obtain ⟨zr, hzr, h⟩ := need_some h1
  clear h1
  obtain ⟨d, e, hT, hd, he⟩ := elemD_ok hE hde
  split at h
  · rename_i hok
    obtain ⟨hz1, hz2⟩ := okD_ok hok
    split at h
    · rename_i kl nl kc nc
      obtain ⟨n, m, rfl, rfl, hnm, ⟨hb, h63⟩, hk⟩ := h
      have hk := forceN_ok (n := S.own.length) hk
      simp only [forceL_eq, SS.withTm_eq] at hk
      simp only [rel] at hl hc; subst hl; subst hc
      have hu := hT.2
      rw [hd] at hu
      have hrow := ofV_row hzr σ
      have hzl : zr.length = de.size := by rw [← relL_length hrow, Array.length_toList, hz1]
      obtain ⟨⟨i, hi, hsz, hby, hzz⟩, _⟩ := he
      have hb' : (i.bytes : Int) * (m : Int) ≤ 281474976710656 := by
        have : ((i.bytes * m : Nat) : Int) ≤ 281474976710656 := by rw [hby]; omega
        rwa [Int.natCast_mul] at this
      have hrun := run_make (P := E.P) w t e i de.zero hu hi hzz kl kc n m (by omega) (by omega) hb' (by omega)
      simp only [Int.toNat_natCast] at hrun
      have hz : ∀ j, ∀ u ∈ (List.replicate j de.zero.cells.toList).flatten, scalar u = true := by
        intro j u hu
        simp only [List.mem_flatten, List.mem_replicate] at hu
        obtain ⟨l, ⟨_, rfl⟩, hu⟩ := hu
        rw [List.all_eq_true] at hz2; exact hz2 u hu
      have hrl : ∀ r ∈ List.replicate n zr, r.length = de.size := by intro r hr; rw [List.mem_replicate] at hr; rw [hr.2]; exact hzl
      have hflr : ∀ j, (List.replicate j de.zero.cells.toList).flatten.length = j * de.size := by
        intro j; rw [flat_length (esz := de.size) (by intro r hr; rw [List.mem_replicate] at hr; rw [hr.2]; simp [hz1])]; simp
      have ec : madeCells de.zero.cells (m * i.size) = ((List.replicate n de.zero.cells.toList).flatten ++ (List.replicate (m - n) de.zero.cells.toList).flatten).toArray := by
        apply Array.ext'
        simp only [madeCells, Array.toList_map, Array.toList_range]
        rw [hsz, ← hz1, range_rows, ← List.flatten_append, List.replicate_append_replicate]
        congr 2; omega
      rw [ec] at hrun
      have hg := g.newVec (esz := de.size) (cap := m) (rows := List.replicate n zr) (vss := List.replicate n de.zero.cells.toList) (rest := (List.replicate (m - n) de.zero.cells.toList).flatten)
        (relLL_replicate hrow n) hrl (by simpa using hnm) (by rw [hflr, hflr, ← Nat.add_mul]; congr 1; omega)
        (by intro u hu; rcases List.mem_append.1 hu with hu | hu
            · exact hz _ u hu
            · exact hz _ u hu) e
      have hvec : k ⟨S.tm, S.own ++ [.vec de.size (List.replicate n zr)]⟩ (.vec S.own.length) → ∃ v w' β' S' s, (Instr.makeSlice t (.int kl (n : Int)) (.int kc (m : Int))).run E.P w = .ok v w' ∧ GG w0 σ0 β0 nt σ β' S' a w' ∧ rel σ β' s v ∧ k S' s := by
        intro hk
        refine ⟨_, _, _, _, _, hrun, hg, ?_, hk⟩
        simp only [rel]
        exact ⟨hb4 (some w.heap.size) de.size (List.replicate n zr).length m, by simp [← g.hp.len], by simp [HB.slice, adr]⟩
      split at hk
      · rename_i e0 hin
        cases hk with
        | vec hk => exact hvec hk
        | mat hk =>
          unfold innD at hin
          split at hin
          · rename_i e1 hde1
            split at hin
            · rename_i d1 hd1
              split at hin
              · cases hin
                have hz0 : de.zero.cells.toList = [.slice none 0 0] := by
                  have := ofV_row hzr σ
                  obtain ⟨v, hv⟩ : ∃ v, de.zero.cells.toList = [v] := by
                    have hl := relL_length this
                    match hcs : de.zero.cells.toList, hl with
                    | [v], _ => exact ⟨v, rfl⟩
                  rw [hv] at this ⊢
                  have := (relL_cons.1 this).1
                  simp only [rel] at this; rw [this]
                have hs1 : de.size = 1 := by rw [← hz1, ← Array.length_toList, hz0]; rfl
                have hfl : ∀ j, (List.replicate j [Value.slice none 0 0]).flatten = List.replicate j (Value.slice none 0 0) := by
                  intro j; induction j with
                  | zero => rfl
                  | succ j ih => simp only [List.replicate_succ, List.flatten_cons, ih]; rfl
                have hb0 : (⟨some w.heap.size, 1, n, m, none, List.replicate n ⟨none, d1.size, 0, 0, none⟩⟩ : HB).blks = [w.heap.size] := by
                  simp only [HB.blks, Option.toList_some, List.cons_append, List.nil_append]
                  congr 1
                  rw [List.filterMap_eq_nil_iff]
                  intro y hy; rw [List.mem_replicate] at hy; rw [hy.2]
                refine ⟨_, _, _, _, _, hrun, g.alloc (x := ⟨some w.heap.size, 1, n, m, none, List.replicate n ⟨none, d1.size, 0, 0, none⟩⟩) (c := .mat d1.size (List.replicate n [])) (fun b hb => by rw [hb0] at hb; simpa using hb)
                  (mat_mk rfl (by rw [hb0]; simp) ⟨by simp, by simp, ?_, .inr ⟨w.heap.size, List.replicate (m - n) (.slice none 0 0), rfl, g.hp.no (Nat.le_refl _), ⟨?_, e, ?_⟩, by simpa using hnm, by simp; omega⟩⟩), ?_, hk⟩
                · intro j y q hy hq
                  rw [List.getElem?_replicate] at hy hq
                  split at hy
                  · rename_i hj
                    rw [if_pos hj] at hq
                    cases hy; cases hq
                    exact ⟨rfl, rfl, by simp, .inl ⟨rfl, rfl, rfl⟩⟩
                  · cases hy
                · intro u hu
                  simp only [List.map_replicate, List.mem_append, List.mem_replicate] at hu
                  rcases hu with ⟨_, rfl⟩ | ⟨_, rfl⟩ <;> rfl
                · rw [heap_alloc_new, hz0, hfl, hfl, List.map_replicate]; rfl
                · simp only [rel]
                  exact ⟨⟨some w.heap.size, 1, n, m, none, List.replicate n ⟨none, d1.size, 0, 0, none⟩⟩, by simp [← g.hp.len], by simp [HB.slice, adr]⟩
              · cases hin
            · cases hin
          · cases hin
      · exact hvec hk
    · exact h.elim
  · exact h.elim
def fieldS (E:Env) (t f:Nat) (x:SV) (k:SV→Prop):Prop:=
 need (look E.tys t) fun d=>
  match d.desc with
  |.struct fs=>need fs[f]? fun fl=>need (look E.tys fl.type) fun df=>
   match df.size with
   |0=>False
   |_+1=>match x with
    |.ptr h off=>forceN (off+fl.offset) fun o=>k (.ptr h o)
    |.elt h i off=>forceN (off+fl.offset) fun o=>k (.elt h i o)
    |.elt2 h i j off=>forceN (off+fl.offset) fun o=>k (.elt2 h i j o)
    |.pptr cells=>match Nat.ble fl.offset cells.length with
     |true=>forceL (cells.drop fl.offset) fun l=>k (.pptr l)
     |false=>False
    |_=>False
  |_=>False
theorem addr_add (b off n:Nat):(⟨b,off,none⟩:Addr).add n=⟨b,off+n,none⟩:=by
 unfold Addr.add;split
 ·rename_i h;subst h;rfl
 ·rfl
theorem fieldS_ok {E:Env} (hE:EnvOK E) {σ:PH} {β:List HB} {t f:Nat} {s:SV} {v:Value} {k:SV→Prop} (h:fieldS E t f s k) (hr:rel σ β s v):
  ∃u s',(∀w,(Instr.fieldAt t v f).run E.P w= .ok u w)∧rel σ β s' u∧k s':=by
 obtain⟨d,hd,h1⟩:=need_some h
 clear h
 have hT:=look_ok hE hd
 split at h1
 ·rename_i fs hfs
  obtain⟨fl,hfl,h2⟩:=need_some h1
  clear h1
  obtain⟨df,hdf,h⟩:=need_some h2
  clear h2
  have hF:=look_ok hE hdf
  have hu:=hT.2
  rw [hfs]at hu
  have key:∀(b off:Nat),df.size≠0→∀w,(Instr.fieldAt t (.pointer (some ⟨b,off,none⟩)) f).run E.P w= .ok (.pointer (some ⟨b,off+fl.offset,none⟩)) w:=by
   intro b off h0 w
   simp [Instr.fieldAt,run_underlying hu,hfl,Instr.sureAddr,fieldPlace,tyOK_size hF,h0,addr_add]
  split at h
  ·exact h.elim
  ·rename_i n hn
   have h0:df.size≠0:=by omega
   split at h
   ·simp only [rel]at hr;obtain⟨x,b,hx,hb,rfl⟩:=hr
    exact⟨_,_,key _ _ h0,by simp only [rel];exact⟨x,b,hx,hb,rfl⟩,forceN_ok h⟩
   ·simp only [rel]at hr;obtain⟨x,b,hx,hb,rfl⟩:=hr
    exact⟨_,_,key _ _ h0,by simp only [rel];exact⟨x,b,hx,hb,by simp [Nat.add_assoc]⟩,forceN_ok h⟩
   ·simp only [rel]at hr;obtain⟨x,y,b,hx,hy,hb,rfl⟩:=hr
    exact⟨_,_,key _ _ h0,by simp only [rel];exact⟨x,y,b,hx,hy,hb,by simp [Nat.add_assoc]⟩,forceN_ok h⟩
   ·rename_i cells
    split at h
    ·rename_i hle
     have hle:=Nat.le_of_ble_eq_true hle
     simp only [forceL_eq]at h
     simp only [rel]at hr;obtain⟨b,off,vs,rfl,hrv,⟨hscA,A,C,hσ,hA⟩⟩:=hr
     refine⟨_,_,key _ _ h0,?_,h⟩
     simp only [rel]
     refine⟨b,off+fl.offset,vs.drop fl.offset,rfl,relL_drop _ hrv,⟨fun v hv=>hscA v (List.mem_of_mem_drop hv),A++vs.take fl.offset,C,?_,?_⟩⟩
     ·rw [hσ];congr 1
      rw [List.append_assoc A (vs.take fl.offset),List.take_append_drop]
     ·have:=relL_length hrv;simp;omega
    ·exact h.elim
   ·exact h.elim
 ·exact h1.elim
def indexS (E:Env) (S:SS) (t:Nat) (x i:SV) (k:SV→Prop):Prop:=
 need (look E.tys t) fun d=>
  match i with
  |.num _ n=>match d.desc with
   |.slice e=>need (look E.tys e) fun de=>match x with
    |.psl esz rows=>match Nat.beq esz de.size with
     |true=>∃(j:Nat) (r:List SV),n=j∧rows[j]? =some r∧k (.pptr r)
     |false=>False
    |.ful esz rows=>match Nat.beq esz de.size with
     |true=>∃(j:Nat) (r:List SV),n=j∧rows[j]? =some r∧k (.pptr r)
     |false=>False
    |.vec h=>match S.own[h]? with
     |some (.vec esz rows)=>match Nat.beq esz de.size with
      |true=>∃j:Nat,n=j∧j<rows.length∧k (.elt h j 0)
      |false=>False
     |some (.mat _ ms)=>match Nat.beq de.size 1 with
      |true=>∃j:Nat,n=j∧j<ms.length∧k (.elt h j 0)
      |false=>False
     |some (.opn esz rows _ _)=>match Nat.beq esz de.size with
      |true=>∃j:Nat,n=j∧j<rows.length∧k (.elt h j 0)
      |false=>False
     |some (.hol _ ms _)=>match Nat.beq de.size 1 with
      |true=>∃j:Nat,n=j∧j<ms.length∧k (.elt h j 0)
      |false=>False
     |_=>False
    |.row h i=>match S.own[h]? with
     |some (.mat esz ms)=>match Nat.beq esz de.size with
      |true=>∃(j:Nat) (m:List (List SV)),n=j∧ms[i]? =some m∧j<m.length∧k (.elt2 h i j 0)
      |false=>False
     |_=>False
    |_=>False
   |.array len e=>need (look E.tys e) fun de=>match x with
    |.ptr h off=>∃j:Nat,n=j∧j<len∧forceN (off+j*de.size) fun o=>k (.ptr h o)
    |.pptr cells=>∃j:Nat,n=j∧j<len∧(match Nat.ble (j*de.size) cells.length with
     |true=>forceL (cells.drop (j*de.size)) fun l=>k (.pptr l)
     |false=>False)
    |.elt h i off=>match S.own[h]? with
     |some (.vec esz _)=>match Nat.beq (de.size/esz*esz) de.size with
      |true=>∃j:Nat,n=j∧j<len∧k (.elt h (i+j*(de.size/esz)) off)
      |false=>∃j:Nat,n=j∧j<len∧forceN (off+j*de.size) fun o=>k (.elt h i o)
     |_=>False
    |_=>False
   |_=>False
  |_=>False
theorem index_psl {P:Program} {σ:PH} {β:List HB} {t e:Nat} {de:TyD} (hu:P.underlying t=some (.slice e)) (he:TyOK P e de) {ad:Option Addr} {rows:List (List SV)} {cap:Nat} {vss:List (List Value)} (hrr:relLL σ rows vss) (hl:∀r∈rows,r.length=de.size)
  (hat:rows=[]∨∃b off,ad=some ⟨b,off,none⟩∧At σ b off vss.flatten) {j:Nat} {r:List SV} (hj:rows[j]? =some r) (kd:IntKind):
  ∃u,(∀w,(Instr.indexAt t (.slice ad rows.length cap) (.int kd (j:Int))).run P w= .ok u w)∧rel σ β (.pptr r) u:=by
 rcases hat with rfl|⟨b,off,rfl,⟨hscA,A,C,hσ,hA⟩⟩
 ·simp at hj
 ·have hjl:j<rows.length:=by
   rcases Nat.lt_or_ge j rows.length with h'|h'
   ·exact h'
   ·rw [List.getElem?_eq_none h']at hj;cases hj
  obtain⟨vs,hvs,hrv⟩:=relLL_get hrr hj
  obtain⟨ef,hfl⟩:=flat_split (relLL_rows hrr hl) hvs
  refine⟨.pointer (some ⟨b,off+j*de.size,none⟩),?_,?_⟩
  ·intro w;simp [Instr.indexAt,asIntOf,run_underlying hu,hjl,tyOK_size he,addr_add]
  ·simp only [rel]
   refine⟨b,off+j*de.size,vs,rfl,hrv,⟨fun v hv=>hscA v (List.mem_flatten.2 ⟨vs,List.mem_of_getElem? hvs,hv⟩),A++(vss.take j).flatten,(vss.drop (j+1)).flatten ++C,?_,?_⟩⟩
   ·rw [hσ,ef];simp [List.append_assoc]
   ·rw [List.length_append,hfl,hA]
theorem indexS_ok {E:Env} (hE:EnvOK E) {w0 σ0 β0 nt σ β S a w} (g:GG w0 σ0 β0 nt σ β S a w) {t:Nat} {s si:SV} {v vi:Value} {k:SV→Prop} (h:indexS E S t s si k) (hr:rel σ β s v) (hi:rel σ β si vi):
  ∃u s',(∀w,(Instr.indexAt t v vi).run E.P w= .ok u w)∧rel σ β s' u∧k s':=by
 obtain⟨d,hd,h1⟩:=need_some h
 clear h
 have hT:=look_ok hE hd
 have hu:=hT.2
 split at h1
 ·rename_i kd n
  simp only [rel]at hi;subst hi
  split at h1
  ·rename_i e hdesc
   obtain⟨de,hde,h2⟩:=need_some h1
   clear h1
   have he:=look_ok hE hde
   rw [hdesc]at hu
   split at h2
   ·rename_i esz rows
    split at h2
    ·rename_i hes
     have hes:=Nat.eq_of_beq_eq_true hes;subst hes
     obtain⟨j,r,rfl,hj,hk⟩:=h2
     simp only [rel]at hr
     obtain⟨ad,cap,vss,rfl,hc,hrr,hl,hat⟩:=hr
     obtain⟨u,hrun,hru⟩:=index_psl (β:=β) hu he hrr hl hat hj kd (cap:=cap)
     exact⟨u,_,hrun,hru,hk⟩
    ·exact h2.elim
   ·rename_i esz rows
    split at h2
    ·rename_i hes
     have hes:=Nat.eq_of_beq_eq_true hes;subst hes
     obtain⟨j,r,rfl,hj,hk⟩:=h2
     simp only [rel]at hr
     obtain⟨ad,vss,rfl,hrr,hl,hat⟩:=hr
     obtain⟨u,hrun,hru⟩:=index_psl (β:=β) hu he hrr hl hat hj kd (cap:=rows.length)
     exact⟨u,_,hrun,hru,hk⟩
    ·exact h2.elim
   ·rename_i hh
    split at h2
    ·rename_i esz rows hc
     split at h2
     ·rename_i hes
      have hes:=Nat.eq_of_beq_eq_true hes;subst hes
      obtain⟨j,rfl,hj,hk⟩:=h2
      simp only [rel]at hr
      obtain⟨x,hx,rfl⟩:=hr
      obtain⟨q1,q2,q3,q4⟩:=g.hp.ok _ _ _ hc hx
      rcases q4 with⟨_,rfl,_⟩|⟨b,vss,rest,hb,hσ,hO,hrr,hcap,hlen⟩
      ·simp at hj
      ·refine⟨.pointer (some ⟨b,j*de.size,none⟩), .elt hh j 0,?_,?_,hk⟩
       ·intro w;simp [HB.slice,adr,hb,Instr.indexAt,asIntOf,run_underlying hu,q2,hj,tyOK_size he,addr_add]
       ·simp only [rel];exact⟨x,b,hx,hb,by simp [q1]⟩
     ·exact h2.elim
    ·rename_i esz ms hc
     split at h2
     ·rename_i hes
      have hes:=Nat.eq_of_beq_eq_true hes
      obtain⟨j,rfl,hj,hk⟩:=h2
      simp only [rel]at hr
      obtain⟨x,hx,rfl⟩:=hr
      have hck:=g.hp.ok _ _ _ hc hx
      obtain⟨b,y,A,C,T',hb,hy,he1,he2,hv,hO,hA,hsc⟩:=chunk_mat hck hj
      refine⟨.pointer (some ⟨b,j*de.size,none⟩), .elt hh j 0,?_,?_,hk⟩
      ·intro w;simp [HB.slice,adr,hb,Instr.indexAt,asIntOf,run_underlying hu,hck.2.1,hj,tyOK_size he,addr_add]
      ·simp only [rel];exact⟨x,b,hx,hb,by simp [he1,hes]⟩
     ·exact h2.elim
    ·rename_i esz rows ii cells hc
     split at h2
     ·rename_i hes
      have hes:=Nat.eq_of_beq_eq_true hes;subst hes
      obtain⟨j,rfl,hj,hk⟩:=h2
      simp only [rel]at hr
      obtain⟨x,hx,rfl⟩:=hr
      have hck:=g.hp.ok _ _ _ hc hx
      obtain⟨b,A,vs,C,T',hb,he1,hσ,hO,hsc,hA,hrv⟩:=chunk_opn hck
      refine⟨.pointer (some ⟨b,j*de.size,none⟩), .elt hh j 0,?_,?_,hk⟩
      ·intro w;simp [HB.slice,adr,hb,Instr.indexAt,asIntOf,run_underlying hu,hck.2.1,hj,tyOK_size he,addr_add]
      ·simp only [rel];exact⟨x,b,hx,hb,by simp [he1]⟩
     ·exact h2.elim
    ·rename_i esz ms ii hc
     split at h2
     ·rename_i hes
      have hes:=Nat.eq_of_beq_eq_true hes
      obtain⟨j,rfl,hj,hk⟩:=h2
      simp only [rel]at hr
      obtain⟨x,hx,rfl⟩:=hr
      obtain⟨he1,hln,_,_,_,_,b,rest,hb,_⟩:=g.hp.ok _ _ _ hc hx
      refine⟨.pointer (some ⟨b,j*de.size,none⟩), .elt hh j 0,?_,?_,hk⟩
      ·intro w;simp [HB.slice,adr,hb,Instr.indexAt,asIntOf,run_underlying hu,hln,hj,tyOK_size he,addr_add]
      ·simp only [rel];exact⟨x,b,hx,hb,by simp [he1,hes]⟩
     ·exact h2.elim
    ·exact h2.elim
   ·rename_i hh ii
    split at h2
    ·rename_i esz ms hc
     split at h2
     ·rename_i hes
      have hes:=Nat.eq_of_beq_eq_true hes;subst hes
      obtain⟨j,m,rfl,hm,hj,hk⟩:=h2
      simp only [rel]at hr
      obtain⟨x,y,hx,hy,rfl⟩:=hr
      have hck:=g.hp.ok _ _ _ hc hx
      obtain⟨_,_,_,_,h5,_⟩:=hck
      obtain⟨q1,q2,q3,q4⟩:=h5 ii y m hy hm
      rcases q4 with⟨_,rfl,_⟩|⟨b,vss,rest,hb,hσ,hO,hrr,hcap,hlen⟩
      ·simp at hj
      ·refine⟨.pointer (some ⟨b,j*de.size,none⟩), .elt2 hh ii j 0,?_,?_,hk⟩
       ·intro w;simp [HI.slice,adr,hb,Instr.indexAt,asIntOf,run_underlying hu,q2,hj,tyOK_size he,addr_add]
       ·simp only [rel];exact⟨x,y,b,hx,hy,hb,by simp [q1]⟩
     ·exact h2.elim
    ·exact h2.elim
   ·exact h2.elim
  ·rename_i len e hdesc
   obtain⟨de,hde,h2⟩:=need_some h1
   clear h1
   have he:=look_ok hE hde
   rw [hdesc]at hu
   have run:∀(b off j:Nat),j<len→∀w,(Instr.indexAt t (.pointer (some ⟨b,off,none⟩)) (.int kd (j:Int))).run E.P w= .ok (.pointer (some ⟨b,off+j*de.size,none⟩)) w:=by
    intro b off j hj w
    simp [Instr.indexAt,asIntOf,run_underlying hu,Instr.sureAddr,hj,tyOK_size he,addr_add]
   split at h2
   ·obtain⟨j,rfl,hj,hk⟩:=h2
    have hk:=forceN_ok hk
    simp only [rel]at hr;obtain⟨x,b,hx,hb,rfl⟩:=hr
    exact⟨_,_,run _ _ _ hj,by simp only [rel];exact⟨x,b,hx,hb,rfl⟩,hk⟩
   ·rename_i cells
    obtain⟨j,rfl,hj,hk⟩:=h2
    split at hk
    ·rename_i hle
     have hle:=Nat.le_of_ble_eq_true hle
     simp only [forceL_eq]at hk
     simp only [rel]at hr;obtain⟨b,off,vs,rfl,hrv,⟨hscA,A,C,hσ,hA⟩⟩:=hr
     refine⟨_,_,run _ _ _ hj,?_,hk⟩
     simp only [rel]
     refine⟨b,off+j*de.size,vs.drop (j*de.size),rfl,relL_drop _ hrv,⟨fun v hv=>hscA v (List.mem_of_mem_drop hv),A++vs.take (j*de.size),C,?_,?_⟩⟩
     ·rw [hσ];congr 1
      rw [List.append_assoc A (vs.take (j*de.size)),List.take_append_drop]
     ·have:=relL_length hrv;simp;omega
    ·exact hk.elim
   ·rename_i hh ii off
    split at h2
    ·rename_i esz rows hc
     split at h2
     ·rename_i hes
      have hes:=Nat.eq_of_beq_eq_true hes
      obtain⟨j,rfl,hj,hk⟩:=h2
      simp only [rel]at hr;obtain⟨x,b,hx,hb,rfl⟩:=hr
      have hck:=g.hp.ok _ _ _ hc hx
      refine⟨_,_,run _ _ _ hj,?_,hk⟩
      simp only [rel]
      refine⟨x,b,hx,hb,?_⟩
      congr 3
      rw [hck.1,Nat.add_mul,Nat.mul_assoc,hes];omega
     ·obtain⟨j,rfl,hj,hk⟩:=h2
      have hk:=forceN_ok hk
      simp only [rel]at hr;obtain⟨x,b,hx,hb,rfl⟩:=hr
      exact⟨_,_,run _ _ _ hj,by simp only [rel];exact⟨x,b,hx,hb,by simp [Nat.add_assoc]⟩,hk⟩
    ·exact h2.elim
   ·exact h2.elim
  ·exact h1.elim
 ·exact h1.elim
def boundS (o:Option SV) (dflt:Nat) (k:Nat→Prop):Prop:=
 match o with
 |none=>k dflt
 |some (.num _ n)=>∃m:Nat,n=m∧k m
 |some _=>False
def sliceS (E:Env) (t:Nat) (x:SV) (lo hi mx:Option SV) (k:SV→Prop):Prop:=
 need (look E.tys t) fun d=>match d.desc with
  |.slice e=>need (look E.tys e) fun de=>match x with
   |.psl esz rows=>match Nat.beq esz de.size with
    |true=>match mx with
     |none=>boundS hi rows.length fun h=>boundS lo 0 fun l=>(l≤h∧h≤rows.length)∧k (.psl esz ((rows.take h).drop l))
     |some _=>match hi with
      |some _=>boundS mx 0 fun m=>boundS hi m fun h=>boundS lo 0 fun l=>(l≤h∧h≤m)∧(m≤rows.length∧m=h)∧k (.ful esz ((rows.take h).drop l))
      |none=>False
    |false=>False
   |.ful esz rows=>match Nat.beq esz de.size with
    |true=>match mx with
     |none=>match hi with
      |none=>boundS hi rows.length fun h=>boundS lo 0 fun l=>(l≤h∧h≤rows.length)∧k (.ful esz (rows.drop l))
      |some _=>boundS hi rows.length fun h=>boundS lo 0 fun l=>(l≤h∧h≤rows.length)∧k (.psl esz ((rows.take h).drop l))
     |some _=>match hi with
      |some _=>boundS mx 0 fun m=>boundS hi m fun h=>boundS lo 0 fun l=>(l≤h∧h≤m)∧(m≤rows.length∧m=h)∧k (.ful esz ((rows.take h).drop l))
      |none=>False
    |false=>False
   |.nil =>match mx with
    |none=>boundS hi 0 fun h=>boundS lo 0 fun l=>(l≤h∧h≤0)∧k .nil
    |some _=>match hi with
     |some _=>boundS mx 0 fun m=>boundS hi m fun h=>boundS lo 0 fun l=>(l≤h∧h≤m)∧m=0∧k (.ful de.size [])
     |none=>False
   |_=>False
  |.string =>match mx with
   |none=>match x with
    |.str s=>boundS hi s.size fun h=>boundS lo 0 fun l=>(l≤h∧h≤s.size)∧k (.str (s.extract l h))
    |_=>False
   |some _=>False
  |_=>False
theorem run_bounds {P:Program} {σ β} {so lo:Option SV} {vh vl:Option Value} {len cap:Nat} {k:Nat→Nat→Prop}
  (h:boundS so len fun h=>boundS lo 0 fun l=>(l≤h∧h≤len)∧k l h) (hcap:len≤cap)
  (hh:∀s,so=some s→∃v,vh=some v∧rel σ β s v) (hn:so=none→vh=none) (hl:∀s,lo=some s→∃v,vl=some v∧rel σ β s v) (hln:lo=none→vl=none):
  ∃l h,(∀w,(Instr.sliceBounds true len cap vl vh none).run P w= .ok (l,h,cap) w)∧l≤h∧h≤len∧k l h:=by
 have step:∀(hb:Nat),(boundS lo 0 fun l=>(l≤hb∧hb≤len)∧k l hb)→((vh=none∧hb=len)∨∃kd,vh=some (.int kd (hb:Int)))→
   ∃l h,(∀w,(Instr.sliceBounds true len cap vl vh none).run P w= .ok (l,h,cap) w)∧l≤h∧h≤len∧k l h:=by
  intro hb h2 hvh
  have hvl:∃l:Nat,((l≤hb∧hb≤len)∧k l hb)∧((vl=none∧l=0)∨∃kd,vl=some (.int kd (l:Int))):=by
   unfold boundS at h2
   split at h2
   ·exact⟨0,h2, .inl ⟨hln rfl,rfl⟩⟩
   ·rename_i kd n
    obtain⟨m,rfl,h3⟩:=h2
    obtain⟨v,rfl,hr⟩:=hl _ rfl
    simp only [rel]at hr;subst hr
    exact⟨m,h3, .inr ⟨kd,rfl⟩⟩
   ·exact h2.elim
  obtain⟨l,⟨⟨h3,h4⟩,hk⟩,hvl⟩:=hvl
  refine⟨l,hb,fun w=>?_,h3,h4,hk⟩
  have hbc:hb≤cap:=by omega
  rcases hvh with⟨rfl,rfl⟩|⟨kd,rfl⟩<;>rcases hvl with⟨rfl,rfl⟩|⟨kd',rfl⟩<;>
   simp [Instr.sliceBounds,Instr.sliceBound,asIntOf,h3,hbc]
 unfold boundS at h
 split at h
 ·exact step _ h (.inl ⟨hn rfl,rfl⟩)
 ·rename_i kd n
  obtain⟨m,rfl,h3⟩:=h
  obtain⟨v,rfl,hr⟩:=hh _ rfl
  simp only [rel]at hr;subst hr
  exact step _ h3 (.inr ⟨kd,rfl⟩)
 ·exact h.elim
theorem run_boundsS {P:Program} {σ β} {so lo:Option SV} {vh vl:Option Value} {len:Nat} {k:Nat→Nat→Prop}
  (h:boundS so len fun h=>boundS lo 0 fun l=>(l≤h∧h≤len)∧k l h)
  (hh:∀s,so=some s→∃v,vh=some v∧rel σ β s v) (hn:so=none→vh=none) (hl:∀s,lo=some s→∃v,vl=some v∧rel σ β s v) (hln:lo=none→vl=none):
  ∃l h,(∀w,(Instr.sliceBounds false len len vl vh none).run P w= .ok (l,h,len) w)∧l≤h∧h≤len∧k l h:=by
 have step:∀(hb:Nat),(boundS lo 0 fun l=>(l≤hb∧hb≤len)∧k l hb)→((vh=none∧hb=len)∨∃kd,vh=some (.int kd (hb:Int)))→
   ∃l h,(∀w,(Instr.sliceBounds false len len vl vh none).run P w= .ok (l,h,len) w)∧l≤h∧h≤len∧k l h:=by
  intro hb h2 hvh
  have hvl:∃l:Nat,((l≤hb∧hb≤len)∧k l hb)∧((vl=none∧l=0)∨∃kd,vl=some (.int kd (l:Int))):=by
   unfold boundS at h2
   split at h2
   ·exact⟨0,h2, .inl ⟨hln rfl,rfl⟩⟩
   ·rename_i kd n
    obtain⟨m,rfl,h3⟩:=h2
    obtain⟨v,rfl,hr⟩:=hl _ rfl
    simp only [rel]at hr;subst hr
    exact⟨m,h3, .inr ⟨kd,rfl⟩⟩
   ·exact h2.elim
  obtain⟨l,⟨⟨h3,h4⟩,hk⟩,hvl⟩:=hvl
  refine⟨l,hb,fun w=>?_,h3,h4,hk⟩
  rcases hvh with⟨rfl,rfl⟩|⟨kd,rfl⟩<;>rcases hvl with⟨rfl,rfl⟩|⟨kd',rfl⟩<;>
   simp [Instr.sliceBounds,Instr.sliceBound,asIntOf,h3,h4]
 unfold boundS at h
 split at h
 ·exact step _ h (.inl ⟨hn rfl,rfl⟩)
 ·rename_i kd n
  obtain⟨m,rfl,h3⟩:=h
  obtain⟨v,rfl,hr⟩:=hh _ rfl
  simp only [rel]at hr;subst hr
  exact step _ h3 (.inr ⟨kd,rfl⟩)
 ·exact h.elim
theorem run_bounds3 {P:Program} {σ β} {sm sh lo:Option SV} {vm vh vl:Option Value} {len cap:Nat} {k:Nat→Nat→Nat→Prop} (hms:sm≠none) (hhs:sh≠none)
  (h:boundS sm 0 fun m=>boundS sh m fun h=>boundS lo 0 fun l=>(l≤h∧h≤m)∧k l h m) (hk0:∀l h m,k l h m→m≤cap)
  (hm:∀s,sm=some s→∃v,vm=some v∧rel σ β s v) (hh:∀s,sh=some s→∃v,vh=some v∧rel σ β s v) (hl:∀s,lo=some s→∃v,vl=some v∧rel σ β s v) (hln:lo=none→vl=none):
  ∃l h m,(∀w,(Instr.sliceBounds true len cap vl vh vm).run P w= .ok (l,h,m) w)∧l≤h∧h≤m∧k l h m:=by
 unfold boundS at h
 split at h
 ·exact absurd rfl hms
 ·rename_i km nm
  obtain⟨m,rfl,h⟩:=h
  obtain⟨v1,rfl,hr1⟩:=hm _ rfl
  simp only [rel]at hr1;subst hr1
  split at h
  ·exact absurd rfl hhs
  ·rename_i kh nh
   obtain⟨hb,rfl,h⟩:=h
   obtain⟨v2,rfl,hr2⟩:=hh _ rfl
   simp only [rel]at hr2;subst hr2
   have hvl:∃l:Nat,((l≤hb∧hb≤m)∧k l hb m)∧((vl=none∧l=0)∨∃kd,vl=some (.int kd (l:Int))):=by
    split at h
    ·exact⟨0,h, .inl ⟨hln rfl,rfl⟩⟩
    ·rename_i kd n
     obtain⟨q,rfl,h3⟩:=h
     obtain⟨v,rfl,hr⟩:=hl _ rfl
     simp only [rel]at hr;subst hr
     exact⟨q,h3, .inr ⟨kd,rfl⟩⟩
    ·exact h.elim
   obtain⟨l,⟨⟨h3,h4⟩,hk⟩,hvl⟩:=hvl
   have hmc:=hk0 _ _ _ hk
   refine⟨l,hb,m,fun w=>?_,h3,h4,hk⟩
   rcases hvl with⟨rfl,rfl⟩|⟨kd',rfl⟩<;>simp [Instr.sliceBounds,Instr.sliceBound,asIntOf,h3,h4,hmc]
  ·exact h.elim
 ·exact h.elim
theorem sub_at {σ:PH} {esz:Nat} {rows:List (List SV)} {vss:List (List Value)} {ad:Option Addr} (hrr:relLL σ rows vss) (hlr:∀r∈rows,r.length=esz) (hat:rows=[]∨∃b off,ad=some ⟨b,off,none⟩∧At σ b off vss.flatten)
  {l hb c:Nat} (hlh:l≤hb) (hhl:hb≤rows.length) (hc:hb≤c):
  ((rows.take hb).drop l)=[]∨∃b off,(if c=l then ad else ad.map (·.add (l*esz)))=some ⟨b,off,none⟩∧At σ b off ((vss.take hb).drop l).flatten :=by
 rcases hat with rfl|⟨b,off,rfl,⟨hscA,A,C,hσ,hA⟩⟩
 ·left;simp
 ·by_cases hcl:c=l
  ·left
   have:hb-l=0:=by omega
   apply List.length_eq_zero_iff.1;simp;omega
  ·right
   rw [if_neg hcl]
   refine⟨b,off+l*esz,by simp [addr_add],⟨fun v hv=>(by obtain⟨q,hq,hv⟩:=List.mem_flatten.1 hv;exact hscA v (List.mem_flatten.2 ⟨q,List.mem_of_mem_take (List.mem_of_mem_drop hq),hv⟩)),A++(vss.take l).flatten,(vss.drop hb).flatten ++C,?_,?_⟩⟩
   ·rw [hσ];congr 1
    have e1:vss=vss.take l++(vss.take hb).drop l++vss.drop hb:=by
     conv=>lhs;rw [←List.take_append_drop hb vss,←List.take_append_drop l (vss.take hb),List.take_take,Nat.min_eq_left hlh]
    conv=>lhs;rw [e1]
    simp [List.append_assoc]
   ·rw [List.length_append,hA,flat_length (esz:=esz) (fun r hr=>relLL_rows hrr hlr r (List.mem_of_mem_take hr)),List.length_take,relLL_length hrr,Nat.min_eq_left (by omega)]
theorem sub_rl {esz:Nat} {rows:List (List SV)} (hlr:∀r∈rows,r.length=esz) (l hb:Nat):∀r∈(rows.take hb).drop l,r.length=esz:=
 fun r hr=>hlr r (List.mem_of_mem_take (List.mem_of_mem_drop hr))
theorem sliceS_ok {E:Env} (hE:EnvOK E) {σ:PH} {β:List HB} {t:Nat} {s:SV} {v:Value} {lo hi mx:Option SV} {vl vh vm:Option Value} {k:SV→Prop} (h:sliceS E t s lo hi mx k) (hr:rel σ β s v)
  (hm:∀s,mx=some s→∃v,vm=some v∧rel σ β s v) (hmn:mx=none→vm=none)
  (hh:∀s,hi=some s→∃v,vh=some v∧rel σ β s v) (hn:hi=none→vh=none) (hl:∀s,lo=some s→∃v,vl=some v∧rel σ β s v) (hln:lo=none→vl=none):
  ∃u s',(∀w,(Instr.sliceAt t v vl vh vm).run E.P w= .ok u w)∧rel σ β s' u∧k s':=by
 obtain⟨d,hd,h1⟩:=need_some h
 clear h
 have hT:=look_ok hE hd
 have hu:=hT.2
 split at h1
 ·rename_i e hdesc
  obtain⟨de,hde,h2⟩:=need_some h1
  clear h1
  have he:=look_ok hE hde
  rw [hdesc]at hu
  have three:∀{ad:Option Addr} {rows:List (List SV)} {cap:Nat} {vss:List (List Value)},v= .slice ad rows.length cap→rows.length≤cap→relLL σ rows vss→(∀r∈rows,r.length=de.size)→(rows=[]∨∃b off,ad=some ⟨b,off,none⟩∧At σ b off vss.flatten)→
    mx≠none→hi≠none→(boundS mx 0 fun m=>boundS hi m fun h=>boundS lo 0 fun l=>(l≤h∧h≤m)∧(m≤rows.length∧m=h)∧k (.ful de.size ((rows.take h).drop l)))→
    ∃u s',(∀w,(Instr.sliceAt t v vl vh vm).run E.P w= .ok u w)∧rel σ β s' u∧k s':=by
   rintro ad rows cap vss rfl hc hrr hlr hat hm0 hh0 hb
   obtain⟨l,hbb,m,hrun,hlh,hhm,⟨hmr,rfl⟩,hk⟩:=run_bounds3 (P:=E.P) (len:=rows.length) (cap:=cap) hm0 hh0 hb (fun l h m hk=>by have:=hk.1.1;omega) hm hh hl hln
   refine⟨.slice (if m=l then ad else ad.map (·.add (l*de.size))) (m-l) (m-l), .ful de.size ((rows.take m).drop l),?_,?_,hk⟩
   ·intro w;simp [Instr.sliceAt,Instr.slice,run_underlying hu,hrun,tyOK_size he]
   ·simp only [rel]
    exact⟨(if m=l then ad else ad.map (·.add (l*de.size))),(vss.take m).drop l,by simp [Nat.min_eq_left hmr],relLL_drop l (relLL_take m hrr),sub_rl hlr l m,sub_at (c:=m) hrr hlr hat hlh hmr (Nat.le_refl _)⟩
  have two:∀{ad:Option Addr} {rows:List (List SV)} {cap:Nat} {vss:List (List Value)} {q:SV→Prop},v= .slice ad rows.length cap→rows.length≤cap→relLL σ rows vss→(∀r∈rows,r.length=de.size)→(rows=[]∨∃b off,ad=some ⟨b,off,none⟩∧At σ b off vss.flatten)→
    mx=none→(boundS hi rows.length fun h=>boundS lo 0 fun l=>(l≤h∧h≤rows.length)∧k (.psl de.size ((rows.take h).drop l)))→
    ∃u s',(∀w,(Instr.sliceAt t v vl vh vm).run E.P w= .ok u w)∧rel σ β s' u∧k s':=by
   rintro ad rows cap vss _ rfl hc hrr hlr hat hm0 hb
   obtain⟨l,hb,hrun,hlh,hhl,hk⟩:=run_bounds (P:=E.P) hb hc hh hn hl hln
   rw [hmn hm0]
   refine⟨.slice (if cap=l then ad else ad.map (·.add (l*de.size))) (hb-l) (cap-l), .psl de.size ((rows.take hb).drop l),?_,?_,hk⟩
   ·intro w;simp [Instr.sliceAt,Instr.slice,run_underlying hu,hrun,tyOK_size he]
   ·simp only [rel]
    exact⟨(if cap=l then ad else ad.map (·.add (l*de.size))),cap-l,(vss.take hb).drop l,by simp [Nat.min_eq_left hhl],by simp [Nat.min_eq_left hhl];omega,relLL_drop l (relLL_take hb hrr),sub_rl hlr l hb,sub_at (c:=cap) hrr hlr hat hlh hhl (by omega)⟩
  split at h2
  ·rename_i esz rows
   split at h2
   ·rename_i hes
    have hes:=Nat.eq_of_beq_eq_true hes;subst hes
    simp only [rel]at hr
    obtain⟨ad,cap,vss,hv,hc,hrr,hlr,hat⟩:=hr
    split at h2
    ·exact two (q:=k) hv hc hrr hlr hat rfl h2
    ·split at h2
     ·exact three hv hc hrr hlr hat (by simp) (by simp) h2
     ·exact h2.elim
   ·exact h2.elim
  ·rename_i esz rows
   split at h2
   ·rename_i hes
    have hes:=Nat.eq_of_beq_eq_true hes;subst hes
    simp only [rel]at hr
    obtain⟨ad,vss,hv,hrr,hlr,hat⟩:=hr
    split at h2
    ·split at h2
     ·subst hv
      obtain⟨l,hb,hrun,hlh,hhl,hk⟩:=run_bounds (P:=E.P) (k:=fun l _=>k (.ful de.size (rows.drop l))) h2 (Nat.le_refl _) hh hn hl hln
      rw [hmn rfl]
      rw [hn rfl]at hrun⊢
      have hb0:hb=rows.length:=by
       have:=hrun default
       simp only [Instr.sliceBounds]at this
       cases vl with
       |none=>simp at this;exact this.2.symm
       |some x=>
        simp only [Sem.run_bind,Sem.run_pure,Result.andThen_ok]at this
        obtain⟨q,hq⟩:∃q,(Instr.sliceBound x rows.length .sliceB).run E.P default=q:=⟨_,rfl⟩
        simp only [Option.isSome_none,Bool.false_eq_true,if_false]at this
        rw [hq]at this
        cases q with
        |ok y w'=>simp [Result.andThen]at this;omega
        |_=>simp [Result.andThen]at this
      subst hb0
      refine⟨.slice (if rows.length=l then ad else ad.map (·.add (l*de.size))) (rows.length-l) (rows.length-l), .ful de.size (rows.drop l),?_,?_,hk⟩
      ·intro w;simp [Instr.sliceAt,Instr.slice,run_underlying hu,hrun,tyOK_size he]
      ·simp only [rel]
       have hs:=sub_at hrr hlr hat hlh (Nat.le_refl _) (Nat.le_refl _)
       rw [List.take_length,←relLL_length hrr,List.take_length]at hs
       rw [relLL_length hrr]at hs
       exact⟨_,vss.drop l,by simp,relLL_drop l hrr,fun r hr=>hlr r (List.mem_of_mem_drop hr),hs⟩
     ·exact two (q:=k) hv (Nat.le_refl _) hrr hlr hat rfl h2
    ·split at h2
     ·exact three hv (Nat.le_refl _) hrr hlr hat (by simp) (by simp) h2
     ·exact h2.elim
   ·exact h2.elim
  ·simp only [rel]at hr;subst hr
   split at h2
   ·obtain⟨l,hb,hrun,hlh,hhl,hk⟩:=run_bounds (P:=E.P) (cap:=0) (k:=fun _ _=>k .nil) h2 (Nat.le_refl _) hh hn hl hln
    rw [hmn rfl]
    have:hb=0:=by omega
    subst this
    have:l=0:=by omega
    subst this
    refine⟨.slice none 0 0, .nil,?_,by simp only [rel],hk⟩
    intro w;simp [Instr.sliceAt,Instr.slice,run_underlying hu,hrun,tyOK_size he]
   ·split at h2
    ·obtain⟨l,hbb,m,hrun,hlh,hhm,rfl,hk⟩:=run_bounds3 (P:=E.P) (len:=0) (cap:=0) (k:=fun _ _ m=>m=0∧k (.ful de.size [])) (by simp) (by simp) h2 (fun l h m hk=>by have:=hk.1;omega) hm hh hl hln
     have:hbb=0:=by omega
     subst this
     have:l=0:=by omega
     subst this
     refine⟨.slice none 0 0, .ful de.size [],?_,by simp only [rel];exact⟨none,[],rfl,by simp [relLL],by simp,by simp⟩,hk⟩
     intro w;simp [Instr.sliceAt,Instr.slice,run_underlying hu,hrun,tyOK_size he]
    ·exact h2.elim
  ·exact h2.elim
 ·rename_i hdesc
  rw [hdesc]at hu
  split at h1
  ·split at h1
   ·rename_i str
    simp only [rel]at hr;subst hr
    obtain⟨l,hb,hrun,hlh,hhl,hk⟩:=run_boundsS (P:=E.P) (k:=fun l h=>k (.str (str.extract l h))) h1 hh hn hl hln
    rw [hmn rfl]
    refine⟨.string (str.extract l hb), .str (str.extract l hb),?_,by simp only [rel],hk⟩
    intro w;simp [Instr.sliceAt,Instr.slice,run_underlying hu,hrun]
   ·exact h1.elim
  ·exact h1.elim
 ·exact h1.elim
def sliceV (E:Env) (S:SS) (t h:Nat) (lo hi:Option SV) (k:SS→SV→Prop):Prop:=
 need (elemD E t) fun de=>match lo with
  |some _=>False
  |none=>match E.free h with
   |false=>False
   |true=>match S.own[h]? with
    |some (.vec esz rows)=>match Nat.beq esz de.size with
     |true=>boundS hi rows.length fun q=>(0≤q∧q≤rows.length)∧
       forceN S.own.length fun n=>forceL (S.own.set h .dead ++[.vec esz (rows.take q)]) fun own=>S.withTm fun tm=>k ⟨tm,own⟩ (.vec n)
     |false=>False
    |_=>False
theorem sliceV_ok {E:Env} (hE:EnvOK E) {w0 σ0 β0 nt σ β S a w} (g:GG w0 σ0 β0 nt σ β S a w) (hfx:E.free=nt.free) {t hh:Nat} {v:Value} {lo hi:Option SV} {vl vh:Option Value} {k:SS→SV→Prop} (h:sliceV E S t hh lo hi k) (hr:rel σ β (.vec hh) v)
  (hh1:∀s,hi=some s→∃v,vh=some v∧rel σ β s v) (hn:hi=none→vh=none) (hln:lo=none→vl=none):
  ∃u β' S' s',(Instr.sliceAt t v vl vh none).run E.P w= .ok u w∧GG w0 σ0 β0 nt σ β' S' a w∧rel σ β' s' u∧k S' s':=by
 obtain⟨de,hde,h1⟩:=need_some h
 clear h
 obtain⟨d,e,hT,hd,he⟩:=elemD_ok hE hde
 have hu:=hT.2
 rw [hd]at hu
 split at h1
 ·exact h1.elim
 split at h1
 ·exact h1.elim
 rename_i hfree
 rw [hfx]at hfree
 split at h1
 ·rename_i esz rows hc
  split at h1
  ·rename_i hes
   have hes:=Nat.eq_of_beq_eq_true hes;subst hes
   simp only [rel]at hr
   obtain⟨x,hx,rfl⟩:=hr
   have hck:=g.hp.ok _ _ _ hc hx
   obtain⟨q1,q2,q3,q4⟩:=hck
   have hcap:rows.length≤x.cap:=by
    rcases q4 with⟨_,rfl,_⟩|⟨b,vss,rest,_,_,_,_,h,_⟩
    ·simp
    ·exact h
   obtain⟨l,hb,hrun,hlh,hhl,hl0,hk⟩:=run_bounds (P:=E.P) (lo:=none) (vl:=vl) (so:=hi) (vh:=vh) (cap:=x.cap) (len:=rows.length) (σ:=σ) (β:=β) (k:=fun l q=>l=0∧forceN S.own.length fun n=>forceL (S.own.set hh .dead ++[.vec de.size (rows.take q)]) fun own=>S.withTm fun tm=>k ⟨tm,own⟩ (.vec n))
    (by
     revert h1;unfold boundS
     split
     ·rintro⟨h1,h2⟩;exact⟨h1,rfl,h2⟩
     ·rintro⟨m,e,h1,h2⟩;exact⟨m,e,h1,rfl,h2⟩
     ·exact id) hcap hh1 hn (fun s h=>by cases h) (fun _=>hln rfl)
   subst hl0
   have hk:=forceN_ok hk
   simp only [forceL_eq,SS.withTm_eq]at hk
   refine⟨.slice (adr x.blk x.z) hb x.cap,β++[⟨x.blk,de.size,hb,x.cap,x.z,[]⟩],_,_,?_,g.succL (hs:=[hh]) (x':=⟨x.blk,de.size,hb,x.cap,x.z,[]⟩) (c:= .vec de.size (rows.take hb)) ?_ (Nat.le_refl _) ⟨rfl,rfl,rfl⟩ (fun _ _ _=>rfl) ?_ ⟨rfl,?_,?_,?_⟩,?_,hk⟩
   ·simp only [HB.slice,q2]
    have:(adr x.blk x.z).map (·.add (0*de.size))=adr x.blk x.z:=by cases adr x.blk x.z<;>simp [Addr.add]
    simp [Instr.sliceAt,Instr.slice,run_underlying hu,hrun,tyOK_size he]
    intro _
    cases adr x.blk x.z<;>simp [Addr.add]
   ·intro h hm;simp at hm;subst hm;exact⟨hfree,_,hc,rfl⟩
   ·intro b hb'
    simp only [HB.blks,List.filterMap_nil,List.append_nil]at hb'
    exact .inl ⟨hh,by simp,x,hx,HB.blk_mem (by simpa using hb')⟩
   ·simp [Nat.min_eq_left hhl]
   ·intro r hr;exact q3 r (List.mem_of_mem_take hr)
   ·rcases q4 with⟨e1,rfl,h3⟩|⟨b,vss,rest,h1,h2,hO,h4,h5,h6⟩
    ·exact .inl ⟨e1,by simp,h3⟩
    ·have e1:vss.flatten=(vss.take hb).flatten ++(vss.drop hb).flatten :=by rw [←List.flatten_append,List.take_append_drop]
     refine .inr ⟨b,vss.take hb,(vss.drop hb).flatten ++rest,h1,h2,?_,relLL_take hb h4,by simp;omega,?_⟩
     ·rw [←List.append_assoc,←e1];exact hO
     ·rw [e1]at h6;simp only [List.length_append]at h6⊢;omega
   ·simp only [rel]
    exact⟨_,by rw [←g.hp.len,List.getElem?_append_right (Nat.le_refl _),Nat.sub_self];rfl,rfl⟩
  ·exact h1.elim
 ·exact h1.elim
def sliceM (E:Env) (S:SS) (t h:Nat) (lo hi mx:Option SV) (k:SS→SV→Prop):Prop:=
 need (elemD E t) fun _=>match lo with
  |some _=>False
  |none=>match hi with
   |none=>False
   |some sh=>match mx with
    |none=>False
    |some sm=>match E.free h with
     |false=>False
     |true=>match S.own[h]? with
      |some (.mat esz ms)=>boundS (some sm) 0 fun m=>boundS (some sh) m fun q=>(q≤m∧m≤ms.length∧m=q)∧
        forceN S.own.length fun n=>forceL (S.own.set h .dead ++[.mat esz (ms.take q)]) fun own=>S.withTm fun tm=>k ⟨tm,own⟩ (.vec n)
      |_=>False
theorem sliceM_ok {E:Env} (hE:EnvOK E) {w0 σ0 β0 nt σ β S a w} (g:GG w0 σ0 β0 nt σ β S a w) (hfx:E.free=nt.free) {t hh:Nat} {v:Value} {lo hi mx:Option SV} {vl vh vm:Option Value} {k:SS→SV→Prop} (h:sliceM E S t hh lo hi mx k) (hr:rel σ β (.vec hh) v)
  (hm1:∀s,mx=some s→∃v,vm=some v∧rel σ β s v) (hh1:∀s,hi=some s→∃v,vh=some v∧rel σ β s v) (hln:lo=none→vl=none):
  ∃u β' S' s',(Instr.sliceAt t v vl vh vm).run E.P w= .ok u w∧GG w0 σ0 β0 nt σ β' S' a w∧rel σ β' s' u∧k S' s':=by
 obtain⟨de,hde,h1⟩:=need_some h
 clear h
 obtain⟨d,e,hT,hd,he⟩:=elemD_ok hE hde
 have hu:=hT.2
 rw [hd]at hu
 split at h1
 ·exact h1.elim
 split at h1
 ·exact h1.elim
 rename_i sh
 split at h1
 ·exact h1.elim
 rename_i sm
 split at h1
 ·exact h1.elim
 rename_i hfree
 rw [hfx]at hfree
 split at h1
 ·rename_i esz ms hc
  simp only [rel]at hr
  obtain⟨x,hx,rfl⟩:=hr
  have hck:=g.hp.ok _ _ _ hc hx
  obtain⟨q1,q2,q3,q5,q6,q4⟩:=hck
  have hcap:ms.length≤x.cap:=by
   rcases q4 with⟨_,rfl,_⟩|⟨b,rest,_,_,_,h,_⟩
   ·simp
   ·exact h
  obtain⟨l,hb,m,hrun,hlh,hhm,⟨hl0,hml,hmq⟩,hk⟩:=run_bounds3 (P:=E.P) (sm:=some sm) (sh:=some sh) (lo:=none) (vm:=vm) (vh:=vh) (vl:=vl) (len:=x.len) (cap:=x.cap) (σ:=σ) (β:=β)
   (k:=fun l q m=>(l=0∧m≤ms.length∧m=q)∧forceN S.own.length fun n=>forceL (S.own.set hh .dead ++[.mat esz (ms.take q)]) fun own=>S.withTm fun tm=>k ⟨tm,own⟩ (.vec n)) (by simp) (by simp)
   (by
    revert h1;unfold boundS
    have inner:∀m:Nat,(match(some sh:Option SV)with
      |none=>(m≤m∧m≤ms.length∧m=m)∧forceN S.own.length fun n=>forceL (S.own.set hh .dead ++[.mat esz (ms.take m)]) fun own=>S.withTm fun tm=>k ⟨tm,own⟩ (.vec n)
      |some (.num _ n)=>∃q:Nat,n=q∧(q≤m∧m≤ms.length∧m=q)∧forceN S.own.length fun n=>forceL (S.own.set hh .dead ++[.mat esz (ms.take q)]) fun own=>S.withTm fun tm=>k ⟨tm,own⟩ (.vec n)
      |some _=>False)→(match(some sh:Option SV)with
      |none=>(0≤m∧m≤m)∧(0=0∧m≤ms.length∧m=m)∧forceN S.own.length fun n=>forceL (S.own.set hh .dead ++[.mat esz (ms.take m)]) fun own=>S.withTm fun tm=>k ⟨tm,own⟩ (.vec n)
      |some (.num _ n)=>∃q:Nat,n=q∧(0≤q∧q≤m)∧(0=0∧m≤ms.length∧m=q)∧forceN S.own.length fun n=>forceL (S.own.set hh .dead ++[.mat esz (ms.take q)]) fun own=>S.withTm fun tm=>k ⟨tm,own⟩ (.vec n)
      |some _=>False):=by
     intro m
     split
     ·rename_i e;cases e
     ·rintro⟨q,e,⟨h1,h2,h3⟩,h4⟩;exact⟨q,e,⟨Nat.zero_le _,h1⟩,⟨rfl,h2,h3⟩,h4⟩
     ·exact id
    split
    ·rename_i e;cases e
    ·rintro⟨m,e,h1⟩;exact⟨m,e,inner m h1⟩
    ·exact id) (fun l h m hk=>by have:=hk.1.2.1;omega) hm1 hh1 (fun s h=>by cases h) (fun _=>hln rfl)
  subst hl0 hmq
  have hk:=forceN_ok hk
  simp only [forceL_eq,SS.withTm_eq]at hk
  refine⟨.slice (adr x.blk x.z) m m,β++[⟨x.blk,1,m,m,x.z,x.inn.take m⟩],_,_,?_,g.succL (hs:=[hh]) (x':=⟨x.blk,1,m,m,x.z,x.inn.take m⟩) (c:= .mat esz (ms.take m)) ?_ (Nat.le_refl _) ⟨rfl,rfl,rfl⟩ (fun _ _ _=>rfl) ?_ ⟨rfl,?_,?_,?_,?_,?_⟩,?_,hk⟩
  ·simp [Instr.sliceAt,Instr.slice,HB.slice,run_underlying hu,hrun,tyOK_size he]
   intro _
   cases adr x.blk x.z<;>simp [Addr.add]
  ·intro h hm;simp at hm;subst hm;exact⟨hfree,_,hc,rfl⟩
  ·intro b hb'
   refine .inl ⟨hh,by simp,x,hx,?_⟩
   simp only [HB.blks,List.mem_append,List.mem_filterMap]at hb'⊢
   rcases hb' with h|⟨y,hy,h⟩
   ·exact .inl h
   ·exact .inr ⟨y,List.mem_of_mem_take hy,h⟩
  ·simp [Nat.min_eq_left hml]
  ·simp only [HB.blks]at q3⊢
   refine List.Nodup.sublist ?_ q3
   exact List.Sublist.append (List.Sublist.refl _) (List.Sublist.filterMap _ (List.take_sublist _ _))
  ·simp [q5]
  ·intro i y mm hy hm
   have hi:i<m:=by
    have:=(List.getElem?_eq_some_iff.1 hy).1
    simp only [List.length_take]at this;omega
   rw [List.getElem?_take_of_lt hi]at hy hm
   exact q6 i y mm hy hm
  ·rcases q4 with⟨e1,rfl,h3⟩|⟨b,rest,h1,h2,hO,h4,h5⟩
   ·simp only [List.length_nil,Nat.le_zero_eq]at hml
    subst hml
    exact .inl ⟨e1,by simp,rfl⟩
   ·refine .inr ⟨b,(x.inn.drop m).map HI.slice++rest,h1,h2,?_,by simp [Nat.min_eq_left hml],by simp [Nat.min_eq_left hml]⟩
    rw [←List.append_assoc,←List.map_append,List.take_append_drop];exact hO
  ·simp only [rel]
   exact⟨_,by rw [←g.hp.len,List.getElem?_append_right (Nat.le_refl _),Nat.sub_self];rfl,rfl⟩
 ·exact h1.elim
end Go.Sx
end
section
namespace Go.Sx
structure Ctr (P:Program) (f:Nat) (args:List SV) (own:List Chunk) (post:SV→List Chunk→Prop):Prop where
 fn:∃fn,P.funcs[f]? =some fn∧(fn.name== "runtime.NumGoroutine")=false∧fn.body.isNone=false
 run:∀w σ β vs,HeapOK w σ β own→relL σ β args vs→
  Calls P f vs.toArray w fun e w'=>∃v σ' β' own' r,e= .returned v∧HeapOK w' σ' β' own'∧Fr w σ β w' σ' β'∧rel σ' β' r v∧post r own'
def Imp (s s':SV):Prop:=∀σ β v,rel σ β s v→rel σ β s' v
theorem Imp.refl (s:SV):Imp s s:=fun _ _ _ h=>h
theorem Imp.of_eq {s s':SV} (h:s=s'):Imp s s':=by subst h;exact Imp.refl s
theorem Imp.any (s:SV):Imp s .any :=fun _ _ _ _=>by simp [rel]
theorem Imp.bl {b:Bool} {p:Prop} (h:b=true↔p):Imp (.bl b) (.bp p):=fun σ β v hv=>by simp only [rel]at*;exact⟨b,hv,h⟩
theorem Imp.bp {p q:Prop} (h:p↔q):Imp (.bp p) (.bp q):=fun σ β v hv=>by simp only [rel]at*;obtain⟨b,e,hb⟩:=hv;exact⟨b,e,hb.trans h⟩
theorem Imp.bpl {p:Prop} {b:Bool} (h:p↔b=true):Imp (.bp p) (.bl b):=fun σ β v hv=>by
 simp only [rel]at*;obtain⟨c,e,hc⟩:=hv
 have:c=b:=by cases c<;>cases b<;>simp_all
 rw [e,this]
theorem Imp.nil (esz:Nat):Imp .nil (.psl esz []):=fun σ β v h=>by simp only [rel]at*;exact⟨none,0,[],h,by simp,by simp [relLL],by simp,by simp⟩
theorem Imp.num {k:IntKind} {a b:Int} (h:a=b):Imp (.num k a) (.num k b):=Imp.of_eq (by rw [h])
theorem Imp.psl {e:Nat} {a b:List (List SV)} (h:a=b):Imp (.psl e a) (.psl e b):=Imp.of_eq (by rw [h])
theorem Imp.fulp {e:Nat} {a b:List (List SV)} (h:a=b):Imp (.ful e a) (.psl e b):=fun σ β v hv=>by
 subst h;simp only [rel]at*;obtain⟨ad,vss,e1,h1,h2,h3⟩:=hv;exact⟨ad,_,vss,e1,Nat.le_refl _,h1,h2,h3⟩
def ImpL:List SV→List SV→Prop
 |[],[]=>True
 |s::l,s'::l'=>Imp s s'∧ImpL l l'
 |_,_=>False
theorem ImpL.ok:∀{l l':List SV},ImpL l l'→∀{σ β vs},relL σ β l vs→relL σ β l' vs
 |[],[],_,_,_,_,h=>h
 |s::l,s'::l',hi,σ,β,vs,h=>by
  simp only [relL]at h;obtain⟨v,vs',rfl,h1,h2⟩:=h
  exact relL_cons.2 ⟨hi.1 _ _ _ h1,hi.2.ok h2⟩
 |[],_::_,hi,_,_,_,_=>hi.elim
 |_::_,[],hi,_,_,_,_=>hi.elim
theorem ImpL.refl:∀l:List SV,ImpL l l
 |[]=>trivial
 |s::l=>⟨Imp.refl s,ImpL.refl l⟩
theorem Imp.agg {l l':List SV} (h:ImpL l l'):Imp (.agg l) (.agg l'):=fun σ β v hv=>by simp only [rel]at*;obtain⟨vs,e,hr⟩:=hv;exact⟨vs,e,h.ok hr⟩
theorem Imp.tup {l l':List SV} (h:ImpL l l'):Imp (.tup l) (.tup l'):=fun σ β v hv=>by simp only [rel]at*;obtain⟨vs,e,hr⟩:=hv;exact⟨vs,e,h.ok hr⟩
theorem Imp.unshut (s:SV):Imp (.shut s) s:=fun σ β v h=>by simp only [rel]at h;exact rel.mono (PH.le.refl _) (fun _ _ h=>by simp at h) _ _ h
theorem Imp.shut {s:SV} (hc:closed s=true):Imp s (.shut s):=fun σ β v h=>by simp only [rel];exact rel_closed s v hc h
theorem Imp.fn {f:Nat} {l l':List SV} (h:ImpL l l'):Imp (.fn f l) (.fn f l'):=fun σ β v hv=>by simp only [rel]at*;obtain⟨vs,e,hr⟩:=hv;exact⟨vs,e,h.ok hr⟩
mutual
def ren (ρ:Nat→Nat):SV→SV
 |.vec h=> .vec (ρ h)
 |.ptr h o=> .ptr (ρ h) o
 |.elt h i o=> .elt (ρ h) i o
 |.row h i=> .row (ρ h) i
 |.mp h=> .mp (ρ h)
 |.elt2 h i j o=> .elt2 (ρ h) i j o
 |.agg l=> .agg (renL ρ l)
 |.tup l=> .tup (renL ρ l)
 |.fn f l=> .fn f (renL ρ l)
 |.fnb f l=> .fnb f (renL ρ l)
 |.ifc t s=> .ifc t (ren ρ s)
 |s=>s
def renL (ρ:Nat→Nat):List SV→List SV
 |[]=>[]
 |s::l=>ren ρ s::renL ρ l
end
mutual
theorem rel_ren {σ} {β β':List HB} {ρ:Nat→Nat} (hρ:∀(j:Nat) (x:HB),β[j]? =some x→β'[ρ j]? =some x):∀(s:SV) (v:Value),rel σ β s v→rel σ β' (ren ρ s) v
 |.vec h,v,hr=>by simp only [rel,ren]at*;obtain⟨x,hx,e⟩:=hr;exact⟨x,hρ _ _ hx,e⟩
 |.ptr h o,v,hr=>by simp only [rel,ren]at*;obtain⟨x,b,hx,e⟩:=hr;exact⟨x,b,hρ _ _ hx,e⟩
 |.elt h i o,v,hr=>by simp only [rel,ren]at*;obtain⟨x,b,hx,e⟩:=hr;exact⟨x,b,hρ _ _ hx,e⟩
 |.agg l,v,hr=>by simp only [rel,ren]at*;obtain⟨vs,e,hr⟩:=hr;exact⟨vs,e,relL_ren hρ l vs hr⟩
 |.tup l,v,hr=>by simp only [rel,ren]at*;obtain⟨vs,e,hr⟩:=hr;exact⟨vs,e,relL_ren hρ l vs hr⟩
 |.fn f l,v,hr=>by simp only [rel,ren]at*;obtain⟨vs,e,hr⟩:=hr;exact⟨vs,e,relL_ren hρ l vs hr⟩
 |.fnb f l,v,hr=>by simp only [rel,ren]at*;obtain⟨vs,e,hr⟩:=hr;exact⟨vs,e,relL_ren hρ l vs hr⟩
 |.row h i,v,hr=>by simp only [rel,ren]at*;obtain⟨x,y,hx,e⟩:=hr;exact⟨x,y,hρ _ _ hx,e⟩
 |.mp h,v,hr=>by simp only [rel,ren]at*;obtain⟨x,b,hx,e⟩:=hr;exact⟨x,b,hρ _ _ hx,e⟩
 |.elt2 h i j o,v,hr=>by simp only [rel,ren]at*;obtain⟨x,y,b,hx,e⟩:=hr;exact⟨x,y,b,hρ _ _ hx,e⟩
 |.ifc t s,v,hr=>by simp only [rel,ren]at*;obtain⟨u,e,hr⟩:=hr;exact⟨u,e,rel_ren hρ s u hr⟩
 |.any,_,_=>by simp [rel,ren]
 |.num _ _,_,h| .bp _,_,h| .bl _,_,h| .str _,_,h| .nil,_,h| .raw _,_,h| .psl _ _,_,h| .ful _ _,_,h| .pptr _,_,h| .shut _,_,h=>by simpa only [rel,ren]using h
theorem relL_ren {σ} {β β':List HB} {ρ:Nat→Nat} (hρ:∀(j:Nat) (x:HB),β[j]? =some x→β'[ρ j]? =some x):∀(l:List SV) (vs:List Value),relL σ β l vs→relL σ β' (renL ρ l) vs
 |[],vs,h=>by simpa only [relL,renL]using h
 |s::l,vs,hr=>by
  simp only [relL,renL]at*
  obtain⟨v,vs',e,h1,h2⟩:=hr
  exact⟨v,vs',e,rel_ren hρ s v h1,relL_ren hρ l vs' h2⟩
end
def renC (ρ:Nat→Nat):Chunk→Chunk
 |.box l=> .box (renL ρ l)
 |.opn e q i l=> .opn e q i (renL ρ l)
 |c=>c
def idx (h:Nat):List Nat→Nat→Option Nat
 |[],_=>none
 |x::l,j=>match Nat.beq x h with|true=>some j|false=>idx h l (j+1)
theorem idx_ok {h:Nat}:∀{l:List Nat} {j k:Nat},idx h l j=some k→j≤k∧l[k-j]? =some h
 |[],j,k,e=>by simp [idx]at e
 |x::l,j,k,e=>by
  unfold idx at e
  split at e
  ·rename_i hb;cases e;have:=Nat.eq_of_beq_eq_true hb;subst this;simp
  ·obtain⟨h1,h2⟩:=idx_ok e
   refine⟨by omega,?_⟩
   rw [show k-j=(k-(j+1))+1 by omega];simpa using h2
mutual
def toC (hs:List Nat):SV→Option SV
 |.vec h=>match idx h hs 0 with|some j=>some (.vec j)|none=>none
 |.ptr h o=>match idx h hs 0 with|some j=>some (.ptr j o)|none=>none
 |.elt h i o=>match idx h hs 0 with|some j=>some (.elt j i o)|none=>none
 |.row h i=>match idx h hs 0 with|some j=>some (.row j i)|none=>none
 |.mp h=>match idx h hs 0 with|some j=>some (.mp j)|none=>none
 |.elt2 h i k o=>match idx h hs 0 with|some j=>some (.elt2 j i k o)|none=>none
 |.agg l=>match toCL hs l with|some l=>some (.agg l)|none=>none
 |.tup l=>match toCL hs l with|some l=>some (.tup l)|none=>none
 |.fn f l=>match toCL hs l with|some l=>some (.fn f l)|none=>none
 |.fnb f l=>match toCL hs l with|some l=>some (.fnb f l)|none=>none
 |.ifc t s=>match toC hs s with|some s=>some (.ifc t s)|none=>none
 |.any =>some .any
 |.num k n=>some (.num k n)
 |.bp p=>some (.bp p)
 |.bl b=>some (.bl b)
 |.str s=>some (.str s)
 |.nil =>some .nil
 |.psl e r=>some (.psl e r)
 |.ful e r=>some (.ful e r)
 |.pptr c=>some (.pptr c)
 |.raw v=>some (.raw v)
 |.shut s=>some (.shut s)
def toCL (hs:List Nat):List SV→Option (List SV)
 |[]=>some []
 |s::l=>match toC hs s,toCL hs l with
  |some s',some l'=>some (s'::l')
  |_,_=>none
end
mutual
theorem toC_ok {σ} {β βc:List HB} {hs:List Nat} (hβ:∀(j h:Nat),hs[j]? =some h→∀x,β[h]? =some x→βc[j]? =some x):∀(s:SV) {s':SV} {v:Value},toC hs s=some s'→rel σ β s v→rel σ βc s' v
 |.vec h,s',v,e,hr=>by
  simp only [toC]at e;split at e
  ·rename_i j hj;cases e;obtain⟨_,hj⟩:=idx_ok hj
   simp only [rel]at*;obtain⟨x,hx,e⟩:=hr;exact⟨x,hβ _ _ (by simpa using hj) _ hx,e⟩
  ·cases e
 |.ptr h o,s',v,e,hr=>by
  simp only [toC]at e;split at e
  ·rename_i j hj;cases e;obtain⟨_,hj⟩:=idx_ok hj
   simp only [rel]at*;obtain⟨x,b,hx,e⟩:=hr;exact⟨x,b,hβ _ _ (by simpa using hj) _ hx,e⟩
  ·cases e
 |.elt h i o,s',v,e,hr=>by
  simp only [toC]at e;split at e
  ·rename_i j hj;cases e;obtain⟨_,hj⟩:=idx_ok hj
   simp only [rel]at*;obtain⟨x,b,hx,e⟩:=hr;exact⟨x,b,hβ _ _ (by simpa using hj) _ hx,e⟩
  ·cases e
 |.row h i,s',v,e,hr=>by
  simp only [toC]at e;split at e
  ·rename_i j hj;cases e;obtain⟨_,hj⟩:=idx_ok hj
   simp only [rel]at*;obtain⟨x,y,hx,e⟩:=hr;exact⟨x,y,hβ _ _ (by simpa using hj) _ hx,e⟩
  ·cases e
 |.mp h,s',v,e,hr=>by
  simp only [toC]at e;split at e
  ·rename_i j hj;cases e;obtain⟨_,hj⟩:=idx_ok hj
   simp only [rel]at*;obtain⟨x,b,hx,e⟩:=hr;exact⟨x,b,hβ _ _ (by simpa using hj) _ hx,e⟩
  ·cases e
 |.elt2 h i k o,s',v,e,hr=>by
  simp only [toC]at e;split at e
  ·rename_i j hj;cases e;obtain⟨_,hj⟩:=idx_ok hj
   simp only [rel]at*;obtain⟨x,y,b,hx,e⟩:=hr;exact⟨x,y,b,hβ _ _ (by simpa using hj) _ hx,e⟩
  ·cases e
 |.agg l,s',v,e,hr=>by
  simp only [toC]at e;split at e
  ·rename_i l' hl;cases e
   simp only [rel]at*;obtain⟨vs,e,hr⟩:=hr;exact⟨vs,e,toCL_ok hβ l hl hr⟩
  ·cases e
 |.tup l,s',v,e,hr=>by
  simp only [toC]at e;split at e
  ·rename_i l' hl;cases e
   simp only [rel]at*;obtain⟨vs,e,hr⟩:=hr;exact⟨vs,e,toCL_ok hβ l hl hr⟩
  ·cases e
 |.fn f l,s',v,e,hr=>by
  simp only [toC]at e;split at e
  ·rename_i l' hl;cases e
   simp only [rel]at*;obtain⟨vs,e,hr⟩:=hr;exact⟨vs,e,toCL_ok hβ l hl hr⟩
  ·cases e
 |.fnb f l,s',v,e,hr=>by
  simp only [toC]at e;split at e
  ·rename_i l' hl;cases e
   simp only [rel]at*;obtain⟨vs,e,hr⟩:=hr;exact⟨vs,e,toCL_ok hβ l hl hr⟩
  ·cases e
 |.ifc t s,s',v,e,hr=>by
  simp only [toC]at e;split at e
  ·rename_i s1 hs1;cases e
   simp only [rel]at*;obtain⟨u,e,hr⟩:=hr;exact⟨u,e,toC_ok hβ s hs1 hr⟩
  ·cases e
 |.any,s',v,e,hr=>by simp only [toC,Option.some.injEq]at e;subst e;simp [rel]
 |.num _ _,s',v,e,hr| .bp _,s',v,e,hr| .bl _,s',v,e,hr| .str _,s',v,e,hr| .nil,s',v,e,hr| .psl _ _,s',v,e,hr| .ful _ _,s',v,e,hr| .pptr _,s',v,e,hr| .raw _,s',v,e,hr| .shut _,s',v,e,hr=>by
  simp only [toC,Option.some.injEq]at e;subst e;simpa only [rel]using hr
theorem toCL_ok {σ} {β βc:List HB} {hs:List Nat} (hβ:∀(j h:Nat),hs[j]? =some h→∀x,β[h]? =some x→βc[j]? =some x):∀(l:List SV) {l':List SV} {vs:List Value},toCL hs l=some l'→relL σ β l vs→relL σ βc l' vs
 |[],l',vs,h,hr=>by simp only [toCL,Option.some.injEq]at h;subst h;simpa only [relL]using hr
 |s::l,l',vs,h,hr=>by
  simp only [toCL]at h
  split at h
  ·rename_i s1 l1 h1 h2
   cases h
   simp only [relL]at hr
   obtain⟨v,vs',rfl,hr1,hr2⟩:=hr
   exact relL_cons.2 ⟨toC_ok hβ s h1 hr1,toCL_ok hβ l h2 hr2⟩
  ·cases h
end
def lendC (hs:List Nat):Chunk→Option Chunk
 |.box l=>match toCL hs l with|some l=>some (.box l)|none=>none
 |.vec e r=>some (.vec e r)
 |.mat e r=>some (.mat e r)
 |.mapI l=>some (.mapI l)
 |.mapS l=>some (.mapS l)
 |_=>none
def lendL (all:List Nat) (own:List Chunk):List Nat→Option (List Chunk)
 |[]=>some []
 |h::hs=>match own[h]? with
  |some c=>match lendC all c with
   |some c=>match lendL all own hs with
    |some l=>some (c::l)
    |none=>none
   |none=>none
  |none=>none
def lend (own:List Chunk) (hs:List Nat):Option (List Chunk):=lendL hs own hs
theorem lendL_ok {all:List Nat} {own:List Chunk}:∀{hs:List Nat} {l:List Chunk},lendL all own hs=some l→l.length=hs.length∧∀(j h:Nat),hs[j]? =some h→∃c c',own[h]? =some c∧l[j]? =some c'∧lendC all c=some c'
 |[],l,e=>by simp only [lendL,Option.some.injEq]at e;subst e;simp
 |h::hs,l,e=>by
  simp only [lendL]at e
  split at e
  ·rename_i c hc
   split at e
   ·rename_i c' hcc
    split at e
    ·rename_i l' hl
     cases e
     obtain⟨h1,h2⟩:=lendL_ok hl
     refine⟨by simp [h1],?_⟩
     intro j k hj
     cases j with
     |zero=>simp at hj;subst hj;exact⟨c,c',hc,by simp,hcc⟩
     |succ j=>simp at hj;obtain⟨d,d',q1,q2,q3⟩:=h2 j k hj;exact⟨d,d',q1,by simpa using q2,q3⟩
    ·cases e
   ·cases e
  ·cases e
theorem lendC_live {hs:List Nat} {c c':Chunk} (h:lendC hs c=some c'):live c=true∧live c'=true:=by
 cases c<;>simp only [lendC]at h<;>first|(cases h;done)|(cases h;exact⟨rfl,rfl⟩)|(split at h<;>first|(cases h;exact⟨rfl,rfl⟩)|cases h)
def back (hs:List Nat) (n:Nat) (j:Nat):Nat:=
 match hs[j]? with
 |some h=>h
 |none=>n+(j-hs.length)
def giveBack:List Nat→List Chunk→List Chunk→List Chunk
 |h::hs,c::cs,own=>giveBack hs cs (own.set h c)
 |_,_,own=>own
theorem giveBack_len:∀(hs:List Nat) (cs own:List Chunk),(giveBack hs cs own).length =own.length
 |[],_,_=>by simp [giveBack]
 |h::hs,[],own=>by simp [giveBack]
 |h::hs,c::cs,own=>by simp [giveBack,giveBack_len hs cs]
theorem giveBack_other:∀(hs:List Nat) (cs own:List Chunk) (i:Nat),i∉hs→(giveBack hs cs own)[i]? =own[i]?
 |[],_,_,_,_=>by simp [giveBack]
 |h::hs,[],own,_,_=>by simp [giveBack]
 |h::hs,c::cs,own,i,hi=>by
  simp only [List.mem_cons,not_or]at hi
  simp only [giveBack];rw [giveBack_other hs cs _ i hi.2,List.getElem?_set_ne (Ne.symm hi.1)]
theorem giveBack_at:∀(hs:List Nat) (cs own:List Chunk) (j h:Nat) (c:Chunk),hs.Nodup→hs[j]? =some h→cs[j]? =some c→h<own.length→(giveBack hs cs own)[h]? =some c
 |[],_,_,j,h,c,_,hj,_,_=>by simp at hj
 |h0::hs,[],own,j,h,c,_,_,hc,_=>by simp at hc
 |h0::hs,c0::cs,own,j,h,c,hnd,hj,hc,hl=>by
  simp only [List.nodup_cons]at hnd
  simp only [giveBack]
  cases j with
  |zero=>
   simp at hj hc;subst hj;subst hc
   rw [giveBack_other _ _ _ _ hnd.1,List.getElem?_set_self hl]
  |succ j=>
   simp at hj hc
   exact giveBack_at hs cs _ j h c hnd.2 hj hc (by simpa using hl)
def nodupB:List Nat→Bool
 |[]=>true
 |h::l=>(match idx h l 0 with|none=>true|some _=>false) && nodupB l
theorem idx_none {h:Nat}:∀{l:List Nat} {j:Nat},idx h l j=none→h∉l
 |[],_,_=>by simp
 |x::l,j,e=>by
  unfold idx at e
  split at e
  ·cases e
  ·rename_i hb
   have:=nbeq_false hb
   simp only [List.mem_cons,not_or];exact⟨Ne.symm this,idx_none e⟩
theorem nodupB_ok:∀{l:List Nat},nodupB l=true→l.Nodup
 |[],_=>by simp
 |h::l,e=>by
  simp only [nodupB,Bool.and_eq_true]at e
  rw [List.nodup_cons]
  refine⟨?_,nodupB_ok e.2⟩
  have:=e.1
  split at this
  ·rename_i hi;exact idx_none hi
  ·cases this
def allFree (fr:Nat→Bool):List Nat→Bool
 |[]=>true
 |h::l=>fr h && allFree fr l
theorem allFree_ok {fr:Nat→Bool}:∀{l:List Nat},allFree fr l=true→∀h∈l,fr h=true
 |[],_,h,hh=>by simp at hh
 |x::l,e,h,hh=>by
  simp only [allFree,Bool.and_eq_true]at e
  rcases List.mem_cons.1 hh with rfl|hh
  ·exact e.1
  ·exact allFree_ok e.2 h hh
inductive CallOb (P:Program) (free:Nat→Bool) (f:Nat) (sargs:List SV) (S:SS) (k:SS→SV→Prop):Prop
 |mk (hs:List Nat) {args' args:List SV} {own0:List Chunk} {post:SV→List Chunk→Prop} (hf:Ctr P f args own0 post) (ha:toCL hs sargs=some args') (hi:ImpL args' args)
   (ho:lend S.own hs=some own0) (hnd:(nodupB hs && allFree free hs)=true)
   (hk:∀r own',post r own'→forceO (giveBack hs (own'.map (renC (back hs S.own.length))) S.own++(own'.drop hs.length).map (renC (back hs S.own.length))) fun own=>forceV (ren (back hs S.own.length) r) fun s=>S.withTm fun tm=>k ⟨tm,own⟩ s):CallOb P free f sargs S k
theorem call_gen {Run:World→(Ending→World→Prop)→Prop} (hmono:∀{w:World} {R R':Ending→World→Prop},Run w R→(∀e w',R e w'→R' e w')→Run w R')
  {sargs:List SV} {S:SS} {k:SS→SV→Prop} {w0 σ0 β0 nt σ β a w} (g:GG w0 σ0 β0 nt σ β S a w) {vs:List Value} (hr:relL σ β sargs vs)
  (hs:List Nat) {args' args:List SV} {own0:List Chunk} {post:SV→List Chunk→Prop}
  (hf:∀βc:List HB,βc=(hs.map fun h=>(β[h]?).getD (hb4 none 0 0 0))→HeapOK w σ βc own0→relL σ βc args vs→Run w fun e w'=>∃v σ' β' own' r,e= .returned v∧HeapOK w' σ' β' own'∧Fr w σ βc w' σ' β'∧rel σ' β' r v∧post r own')
  (ha:toCL hs sargs=some args') (hi:ImpL args' args)
  (ho:lend S.own hs=some own0) (hnd:(nodupB hs && allFree nt.free hs)=true)
  (hk:∀r own',post r own'→forceO (giveBack hs (own'.map (renC (back hs S.own.length))) S.own++(own'.drop hs.length).map (renC (back hs S.own.length))) fun own=>forceV (ren (back hs S.own.length) r) fun s=>S.withTm fun tm=>k ⟨tm,own⟩ s):
  Run w fun e w'=>∃v σ' β' S' s,e= .returned v∧GG w0 σ0 β0 nt σ' β' S' a w'∧rel σ' β' s v∧k S' s:=by
 rw [Bool.and_eq_true]at hnd
 have hfree:=allFree_ok hnd.2
 have hnd:=nodupB_ok hnd.1
 obtain⟨hol,hoc⟩:=lendL_ok ho
 have hlt:∀(j h:Nat),hs[j]? =some h→h<β.length:=by
  intro j h hj
  obtain⟨c,c',hc,_⟩:=hoc j h hj
  rw [g.hp.len]
  rcases Nat.lt_or_ge h S.own.length with h'|h'
  ·exact h'
  ·rw [List.getElem?_eq_none h']at hc;cases hc
 let βc:List HB:=hs.map fun h=>(β[h]?).getD (hb4 none 0 0 0)
 have hβc:∀(j h:Nat),hs[j]? =some h→∀x,β[h]? =some x→βc[j]? =some x:=by
  intro j h hj x hx
  simp only [βc,List.getElem?_map,hj,Option.map_some,hx,Option.getD_some]
 have hβc':∀(j:Nat) (x:HB),βc[j]? =some x→∃h,hs[j]? =some h∧β[h]? =some x:=by
  intro j x hx
  simp only [βc,List.getElem?_map]at hx
  cases hj:hs[j]? with
  |none=>rw [hj]at hx;cases hx
  |some h=>
   rw [hj]at hx
   have:=hlt j h hj
   simp only [Option.map_some,Option.some.injEq]at hx
   refine⟨h,rfl,?_⟩
   rw [List.getElem?_eq_getElem this]at hx⊢
   simp only [Option.getD_some]at hx;rw [hx]
 have hβl:βc.length=hs.length:=by simp [βc]
 have hinB:∀b,inB βc b→ofHs β hs b:=by
  rintro b ⟨j,x,hx,hb⟩
  obtain⟨h,hj,hxx⟩:=hβc' j x hx
  exact⟨h,List.mem_of_getElem? hj,x,hxx,hb⟩
 have hlive:∀h∈hs,∃c,S.own[h]? =some c∧live c=true:=by
  intro h hm
  obtain⟨j,hj⟩:=List.getElem?_of_mem hm
  obtain⟨c,c',q1,_,q3⟩:=hoc j h hj
  exact⟨c,q1,(lendC_live q3).1⟩
 have hH:HeapOK w σ βc own0:=by
  refine⟨g.hp.ph,by rw [hβl,hol],?_,?_,?_,?_⟩
  ·intro j c x hc hx
   obtain⟨h,hj,hxx⟩:=hβc' j x hx
   obtain⟨c0,c',q1,q2,q3⟩:=hoc j h hj
   rw [q2]at hc;cases hc
   have hck:=g.hp.ok h c0 x q1 hxx
   cases c0 with
   |box cells=>
    simp only [lendC]at q3
    split at q3
    ·rename_i l' hl;cases q3
     obtain⟨b,vs,e,hσ,hO,hr⟩:=hck
     exact⟨b,vs,e,hσ,hO,toCL_ok hβc cells hl hr⟩
    ·cases q3
   |vec esz rows=>simp only [lendC,Option.some.injEq]at q3;subst q3;exact hck
   |mat esz rows=>simp only [lendC,Option.some.injEq]at q3;subst q3;exact hck
   |mapI l=>simp only [lendC,Option.some.injEq]at q3;subst q3;exact hck
   |mapS l=>simp only [lendC,Option.some.injEq]at q3;subst q3;exact hck
   |_=>simp [lendC]at q3
  ·intro j x b hx hb
   obtain⟨h,hj,hxx⟩:=hβc' j x hx
   exact g.hp.lt h x b hxx hb
  ·intro j j' d d' x x' b hd hd' hl hl' hx hx' hb hb'
   obtain⟨h,hj,hxx⟩:=hβc' j x hx
   obtain⟨h',hj',hxx'⟩:=hβc' j' x' hx'
   obtain⟨c,q1,q2⟩:=hlive h (List.mem_of_getElem? hj)
   obtain⟨c',q1',q2'⟩:=hlive h' (List.mem_of_getElem? hj')
   have:=g.hp.apart h h' _ _ x x' b q1 q1' q2 q2' hxx hxx' hb hb'
   subst this
   have l1:j<hs.length:=by
    rcases Nat.lt_or_ge j hs.length with h'|h'
    ·exact h'
    ·rw [List.getElem?_eq_none h']at hj;cases hj
   exact(List.getElem?_inj l1 hnd).1 (hj.trans hj'.symm)
  ·intro j d x b hd hl hx hb
   obtain⟨h,hj,hxx⟩:=hβc' j x hx
   obtain⟨c,q1,q2⟩:=hlive h (List.mem_of_getElem? hj)
   exact g.hp.psn h c x b q1 q2 hxx hb
 have hargs:relL σ βc args vs:=hi.ok (toCL_ok hβc _ ha hr)
 refine hmono (hf βc rfl hH hargs) ?_
 rintro e w' ⟨v,σ',β',own',r,rfl,hH',hF',hr',hp⟩
 let ρ:=back hs S.own.length
 let βn:=β++β'.drop hs.length
 have hlen':hs.length≤β'.length:=by
  rcases Nat.lt_or_ge β'.length hs.length with h'|h'
  ·exfalso
   have hx:β'.length<βc.length:=by omega
   have:=hF'.pre β'.length _ (List.getElem?_eq_getElem hx)
   rw [List.getElem?_eq_none (Nat.le_refl _)]at this;cases this
  ·exact h'
 have hρ:∀(j:Nat) (x:HB),β'[j]? =some x→βn[ρ j]? =some x:=by
  intro j x hx
  simp only [ρ,back]
  cases hj:hs[j]? with
  |some h=>
   simp only
   have h1:=hlt j h hj
   have h2:βc[j]? =some β[h]:=hβc j h hj _ (List.getElem?_eq_getElem h1)
   have h3:=hF'.pre j _ h2
   rw [hx]at h3;cases h3
   rw [List.getElem?_append_left h1,List.getElem?_eq_getElem h1]
  |none=>
   simp only
   have hjl:hs.length≤j:=by
    rcases Nat.lt_or_ge j hs.length with h'|h'
    ·rw [List.getElem?_eq_getElem h']at hj;cases hj
    ·exact h'
   rw [←g.hp.len,List.getElem?_append_right (by omega),List.getElem?_drop]
   rw [show hs.length+(β.length+(j-hs.length)-β.length)=j by omega];exact hx
 have hle:HB.le β βn:=HB.le_append _ _
 have hnew:∀(i:Nat) (x:HB),βn[i]? =some x→(i<β.length∧β[i]? =some x)∨(β.length≤i∧β'[hs.length+(i-β.length)]? =some x):=by
  intro i x hx
  rcases Nat.lt_or_ge i β.length with h'|h'
  ·left;exact⟨h',by rwa [List.getElem?_append_left h']at hx⟩
  ·right;refine⟨h',?_⟩
   rw [List.getElem?_append_right h',List.getElem?_drop]at hx;exact hx
 have hfresh:∀(i:Nat) (x:HB) (b:Nat),β'[i]? =some x→b∈x.blks→w.heap.size≤b∨ofHs β hs b:=by
  intro i x b hx hb
  rcases hF'.fresh _ x b hx hb with h|h
  ·exact .inl h
  ·exact .inr (hinB b h)
 have hnot:∀(i:Nat) (c:Chunk) (x:HB) (b:Nat),i∉hs→S.own[i]? =some c→live c=true→β[i]? =some x→b∈x.blks→¬ofHs β hs b:=by
  rintro i c x b hi hc hl hx hb ⟨h,hm,y,hy,hyb⟩
  obtain⟨c',q1,q2⟩:=hlive h hm
  have:=g.hp.apart i h c c' x y b hc q1 hl q2 hx hy hb hyb
  subst this;exact hi hm
 have hkeepblk:∀(i:Nat) (c:Chunk) (x:HB) (b:Nat),i∉hs→S.own[i]? =some c→live c=true→β[i]? =some x→b∈x.blks→w'.heap[b]? =w.heap[b]? :=by
  intro i c x b hi hc hlv hx hb
  exact hF'.block b (g.hp.lt i x b hx hb) (fun h=>hnot i c x b hi hc hlv hx hb (hinB b h))
 have hσn:∀(i:Nat) (c:Chunk) (x:HB) (b:Nat),i∉hs→S.own[i]? =some c→live c=true→β[i]? =some x→b∈x.blks→σ b=none→σ' b=none:=by
  intro i c x b hi hc hlv hx hb hn
  cases h:σ' b with
  |none=>rfl
  |some cs=>
   rcases hF'.new b cs h (g.hp.lt i x b hx hb)with h|h
   ·rw [h]at hn;cases hn
   ·exact(hnot i c x b hi hc hlv hx hb (hinB b h)).elim
 have hback:∀(i:Nat) (x:HB),i∈hs→β[i]? =some x→∃(j:Nat) (hj:j<own'.length),hs[j]? =some i∧β'[j]? =some x∧(giveBack hs (own'.map (renC ρ)) S.own)[i]? =some (renC ρ own'[j]):=by
  intro i x him hx
  obtain⟨j,hj⟩:=List.getElem?_of_mem him
  have hb:βc[j]? =some x:=hβc j i hj x hx
  have hb':=hF'.pre j x hb
  have hjl:j<own'.length:=by
   rw [←hH'.len]
   rcases Nat.lt_or_ge j β'.length with h'|h'
   ·exact h'
   ·rw [List.getElem?_eq_none h']at hb';cases hb'
  exact⟨j,hjl,hj,hb',giveBack_at hs (own'.map (renC ρ)) S.own j i (renC ρ own'[j]) hnd hj (by rw [List.getElem?_map,List.getElem?_eq_getElem hjl];rfl) (by rw [←g.hp.len];exact hlt j i hj)⟩
 have hren:∀(c:Chunk) (x:HB),chunkOK w' σ' β' c x→chunkOK w' σ' βn (renC ρ c) x:=by
  intro c x hck
  cases c with
  |box cells=>obtain⟨b,vs,e,hσ,hO,hr⟩:=hck;exact⟨b,vs,e,hσ,hO,relL_ren hρ _ _ hr⟩
  |opn e q i cells=>
   obtain⟨h1,h2,h3,h4,h5,b,vss,vs,rest,e,hσ,hO,hr,hc,hcap,hl⟩:=hck
   exact⟨h1,h2,h3,h4,by rw [←relL_length (relL_ren hρ _ _ hc),relL_length hc];exact h5,b,vss,vs,rest,e,hσ,hO,hr,relL_ren hρ _ _ hc,hcap,hl⟩
  |_=>exact hck
 have hrl:∀(c:Chunk),live (renC ρ c)=live c:=by intro c;cases c<;>rfl
 have hcase:∀(i:Nat) (d:Chunk) (x:HB),(giveBack hs (own'.map (renC ρ)) S.own++(own'.drop hs.length).map (renC ρ))[i]? =some d→βn[i]? =some x→
   (i∉hs∧i<β.length∧S.own[i]? =some d∧β[i]? =some x)∨(∃j c,own'[j]? =some c∧β'[j]? =some x∧d=renC ρ c∧i=ρ j):=by
  intro i d x hd hx
  rcases hnew i x hx with⟨h1,h2⟩|⟨h1,h2⟩
  ·rw [List.getElem?_append_left (by rw [giveBack_len,←g.hp.len];exact h1)]at hd
   by_cases him:i∈hs
   ·obtain⟨j,hj,hji,hb',hg⟩:=hback i x him h2
    rw [hg]at hd;cases hd
    exact .inr ⟨j,own'[j],List.getElem?_eq_getElem hj,hb',rfl,by simp only [ρ,back,hji]⟩
   ·rw [giveBack_other _ _ _ _ him]at hd
    exact .inl ⟨him,h1,hd,h2⟩
  ·rw [List.getElem?_append_right (by rw [giveBack_len,←g.hp.len];exact h1),giveBack_len,←g.hp.len,List.getElem?_map,List.getElem?_drop]at hd
   cases ho':own'[hs.length+(i-β.length)]? with
   |none=>rw [ho']at hd;cases hd
   |some c0=>
    rw [ho']at hd;cases hd
    refine .inr ⟨_,c0,ho',h2,rfl,?_⟩
    simp only [ρ,back,List.getElem?_eq_none (show hs.length≤hs.length+(i-β.length)by omega),←g.hp.len];omega
 refine⟨v,σ',βn,⟨S.tm,giveBack hs (own'.map (renC ρ)) S.own++(own'.drop hs.length).map (renC ρ)⟩,ren ρ r,rfl,⟨g.tm.mono hF'.le hle,g.sz,g.df,⟨hH'.ph,?_,?_,?_,?_,?_⟩,⟨?_,?_,?_,?_,?_,?_,?_,?_,?_⟩,?_⟩,rel_ren hρ _ _ hr',forceV_ok (k:=fun s=>k ⟨S.tm,giveBack hs (own'.map (renC ρ)) S.own++(own'.drop hs.length).map (renC ρ)⟩ s) (by have:=hk r own' hp;rwa [forceO_eq]at this)⟩
 ·simp only [βn,List.length_append,List.length_drop,giveBack_len,List.length_map,g.hp.len,hH'.len]
 ·intro i c x hc hx
  rcases hcase i c x hc hx with⟨him,_,hd,h2⟩|⟨j,c0,hc0,hb0,rfl,_⟩
  ·exact chunkOK.step hF'.le hle (g.hp.ok i c x hd h2) (fun hl b hb=>hσn i c x b him hd hl h2 hb) (fun hl b hb=>hkeepblk i c x b him hd hl h2 hb)
  ·exact hren c0 x (hH'.ok j c0 x hc0 hb0)
 ·intro i x b hx hb
  rcases hnew i x hx with⟨h1,h2⟩|⟨h1,h2⟩
  ·have:=g.hp.lt i x b h2 hb;have:=hF'.size;omega
  ·exact hH'.lt _ x b h2 hb
 ·intro i j d d' x y b hd hd' hl hl' hx hy hb hb'
  have mix:∀(i:Nat) (d:Chunk) (x:HB) (q:Nat) (y:HB),i∉hs→S.own[i]? =some d→live d=true→β[i]? =some x→b∈x.blks→β'[q]? =some y→b∈y.blks→False:=by
   intro i d x q y him hd hl hx hb hy hb'
   rcases hfresh q y b hy hb' with h|h
   ·have:=g.hp.lt i x b hx hb;omega
   ·exact hnot i d x b him hd hl hx hb h
  rcases hcase i d x hd hx with⟨him,_,hd,h2⟩|⟨p,c0,hc0,hb0,rfl,hip⟩<;>rcases hcase j d' y hd' hy with⟨hjm,_,hd',h4⟩|⟨q,c1,hc1,hb1,rfl,hjq⟩
  ·exact g.hp.apart i j d d' x y b hd hd' hl hl' h2 h4 hb hb'
  ·exact(mix i d x q y him hd hl h2 hb hb1 hb').elim
  ·exact(mix j d' y p x hjm hd' hl' h4 hb' hb0 hb).elim
  ·rw [hrl]at hl hl'
   have:=hH'.apart p q c0 c1 x y b hc0 hc1 hl hl' hb0 hb1 hb hb'
   rw [hip,hjq,this]
 ·intro i d x b hd hl hx hb
  rcases hcase i d x hd hx with⟨him,_,hd,h2⟩|⟨p,c0,hc0,hb0,rfl,hip⟩
  ·exact hσn i d x b him hd hl h2 hb (g.hp.psn i d x b hd hl h2 hb)
  ·rw [hrl]at hl
   exact hH'.psn p c0 x b hc0 hl hb0 hb
 ·exact hF'.os.trans g.fr.os
 ·exact hF'.tape.trans g.fr.tape
 ·exact⟨hF'.output.1.trans g.fr.output.1,Nat.le_trans g.fr.output.2 hF'.output.2⟩
 ·have:=g.fr.size;have:=hF'.size;omega
 ·intro b hb hn
  rw [←g.fr.block b hb hn]
  refine hF'.block b (by have:=g.fr.size;omega) (fun h=>?_)
  obtain⟨hh,_,x,hx,hbx⟩:=hinB b h
  rcases g.fr.fresh hh x b hx hbx with e|e
  ·omega
  ·exact hn e
 ·exact g.fr.le.trans hF'.le
 ·intro b cs hb hlt'
  rcases hF'.new b cs hb (by have:=g.fr.size;omega)with h|h
  ·exact g.fr.new b cs h hlt'
  ·obtain⟨hh,_,x,hx,hbx⟩:=hinB b h
   rcases g.fr.fresh hh x b hx hbx with e|e
   ·omega
   ·exact .inr e
 ·exact g.fr.pre.trans hle
 ·intro i x b hx hb
  rcases hnew i x hx with⟨h1,h2⟩|⟨h1,h2⟩
  ·exact g.fr.fresh i x b h2 hb
  ·rcases hfresh _ x b h2 hb with h|⟨hh,_,y,hy,hby⟩
   ·exact .inl (by have:=g.fr.size;omega)
   ·exact g.fr.fresh hh y b hy hby
 ·have hpn:∀b,ofHs β hs b→nt.pin b=none:=by
   rintro b ⟨h,hm,y,hy,hyb⟩
   exact g.pn.fr h y b hy (.inl (hfree h hm)) hyb
  refine g.pn.step (fun b o hb hb'=>?_) (fun i x b hi hf hb=>?_)
  ·rw [←hb']
   refine hF'.block b (g.pn.lt hb) (fun h=>?_)
   rw [hpn b (hinB b h)]at hb;cases hb
  ·rcases hnew i x hi with⟨_,h2⟩|⟨_,h2⟩
   ·exact .inl h2
   ·rcases hfresh _ x b h2 hb with h|h
    ·exact .inr (g.pn.new h)
    ·exact .inr (hpn b h)
theorem call_ok {P:Program} {f:Nat} {sargs:List SV} {S:SS} {k:SS→SV→Prop} {w0 σ0 β0 nt σ β a w} (g:GG w0 σ0 β0 nt σ β S a w) (h:CallOb P nt.free f sargs S k) {vs:List Value} (hr:relL σ β sargs vs):
  (∃fn,P.funcs[f]? =some fn∧(fn.name== "runtime.NumGoroutine")=false∧fn.body.isNone=false)∧
  Calls P f vs.toArray w fun e w'=>∃v σ' β' S' s,e= .returned v∧GG w0 σ0 β0 nt σ' β' S' a w'∧rel σ' β' s v∧k S' s:=by
 obtain⟨hs,hf,ha,hi,ho,hnd,hk⟩:=h
 exact⟨hf.1,call_gen (Run:=fun w R=>Calls P f vs.toArray w R) (fun h hp=>h.mono hp) g hr hs (fun βc _ hH hargs=>hf.2 w σ βc vs hH hargs) ha hi ho hnd hk⟩
end Go.Sx
end
section
namespace Go.Sx
mutual
def bnd (n:Nat):SV→Bool
 |.vec h=>Nat.ble (h+1) n
 |.ptr h _=>Nat.ble (h+1) n
 |.elt h _ _=>Nat.ble (h+1) n
 |.row h _=>Nat.ble (h+1) n
 |.mp h=>Nat.ble (h+1) n
 |.elt2 h _ _ _=>Nat.ble (h+1) n
 |.agg l=>bndL n l
 |.tup l=>bndL n l
 |.fn _ l=>bndL n l
 |.fnb _ l=>bndL n l
 |.ifc _ s=>bnd n s
 |_=>true
def bndL (n:Nat):List SV→Bool
 |[]=>true
 |s::l=>bnd n s && bndL n l
end
def bndO (n:Nat):List Chunk→Bool
 |[]=>true
 |.box l::cs=>bndL n l && bndO n cs
 |.opn _ _ _ l::cs=>bndL n l && bndO n cs
 |_::cs=>bndO n cs
theorem bndO_at {n:Nat}:∀{cs:List Chunk} {i:Nat} {l:List SV},bndO n cs=true→cs[i]? =some (.box l)→bndL n l=true
 |[],i,l,_,h=>by simp at h
 |c::cs,i,l,hb,h=>by
  cases i with
  |zero=>simp at h;subst h;simp only [bndO,Bool.and_eq_true]at hb;exact hb.1
  |succ i=>
   simp at h
   refine bndO_at (cs:=cs) ?_ h
   cases c<;>simp only [bndO,Bool.and_eq_true]at hb<;>first|exact hb|exact hb.2
theorem bndO_opn {n:Nat}:∀{cs:List Chunk} {i:Nat} {e:Nat} {q:List (List SV)} {j:Nat} {l:List SV},bndO n cs=true→cs[i]? =some (.opn e q j l)→bndL n l=true
 |[],i,_,_,_,l,_,h=>by simp at h
 |c::cs,i,e,q,j,l,hb,h=>by
  cases i with
  |zero=>simp at h;subst h;simp only [bndO,Bool.and_eq_true]at hb;exact hb.1
  |succ i=>
   simp at h
   refine bndO_opn (cs:=cs) ?_ h
   cases c<;>simp only [bndO,Bool.and_eq_true]at hb<;>first|exact hb|exact hb.2
mutual
theorem rel_bnd {σ} {β:List HB} {n:Nat}:∀(s:SV) (v:Value),bnd n s=true→rel σ β s v→rel σ (β.take n) s v
 |.vec h,v,hb,hr=>by simp only [rel,bnd]at*;obtain⟨x,hx,e⟩:=hr;exact⟨x,by rw [List.getElem?_take_of_lt (Nat.le_of_ble_eq_true hb)];exact hx,e⟩
 |.ptr h o,v,hb,hr=>by simp only [rel,bnd]at*;obtain⟨x,b,hx,e⟩:=hr;exact⟨x,b,by rw [List.getElem?_take_of_lt (Nat.le_of_ble_eq_true hb)];exact hx,e⟩
 |.elt h i o,v,hb,hr=>by simp only [rel,bnd]at*;obtain⟨x,b,hx,e⟩:=hr;exact⟨x,b,by rw [List.getElem?_take_of_lt (Nat.le_of_ble_eq_true hb)];exact hx,e⟩
 |.agg l,v,hb,hr=>by simp only [rel,bnd]at*;obtain⟨vs,e,hr⟩:=hr;exact⟨vs,e,relL_bnd l vs hb hr⟩
 |.tup l,v,hb,hr=>by simp only [rel,bnd]at*;obtain⟨vs,e,hr⟩:=hr;exact⟨vs,e,relL_bnd l vs hb hr⟩
 |.fn f l,v,hb,hr=>by simp only [rel,bnd]at*;obtain⟨vs,e,hr⟩:=hr;exact⟨vs,e,relL_bnd l vs hb hr⟩
 |.fnb f l,v,hb,hr=>by simp only [rel,bnd]at*;obtain⟨vs,e,hr⟩:=hr;exact⟨vs,e,relL_bnd l vs hb hr⟩
 |.row h i,v,hb,hr=>by simp only [rel,bnd]at*;obtain⟨x,y,hx,e⟩:=hr;exact⟨x,y,by rw [List.getElem?_take_of_lt (Nat.le_of_ble_eq_true hb)];exact hx,e⟩
 |.mp h,v,hb,hr=>by simp only [rel,bnd]at*;obtain⟨x,b,hx,e⟩:=hr;exact⟨x,b,by rw [List.getElem?_take_of_lt (Nat.le_of_ble_eq_true hb)];exact hx,e⟩
 |.elt2 h i j o,v,hb,hr=>by simp only [rel,bnd]at*;obtain⟨x,y,b,hx,e⟩:=hr;exact⟨x,y,b,by rw [List.getElem?_take_of_lt (Nat.le_of_ble_eq_true hb)];exact hx,e⟩
 |.ifc t s,v,hb,hr=>by simp only [rel,bnd]at*;obtain⟨u,e,hr⟩:=hr;exact⟨u,e,rel_bnd s u hb hr⟩
 |.any,_,_,_=>by simp [rel]
 |.num _ _,_,_,h| .bp _,_,_,h| .bl _,_,_,h| .str _,_,_,h| .nil,_,_,h| .raw _,_,_,h| .psl _ _,_,_,h| .ful _ _,_,_,h| .pptr _,_,_,h| .shut _,_,_,h=>by simpa only [rel]using h
theorem relL_bnd {σ} {β:List HB} {n:Nat}:∀(l:List SV) (vs:List Value),bndL n l=true→relL σ β l vs→relL σ (β.take n) l vs
 |[],vs,_,h=>by simpa only [relL]using h
 |s::l,vs,hb,hr=>by
  simp only [relL,bndL,Bool.and_eq_true]at*
  obtain⟨v,vs',e,h1,h2⟩:=hr
  exact⟨v,vs',e,rel_bnd s v hb.1 h1,relL_bnd l vs' hb.2 h2⟩
end
theorem HeapOK.take {w σ β own} (H:HeapOK w σ β own) {n:Nat} (hb:bndO n (own.take n)=true):HeapOK w σ (β.take n) (own.take n) where
 ph:=H.ph
 len:=by rw [List.length_take,List.length_take,H.len]
 ok i c x hc hx:=by
  rw [List.getElem?_take]at hx hc
  split at hx
  ·rename_i hi
   rw [if_pos hi]at hc
   have hck:=H.ok i c x hc hx
   cases c with
   |box l=>
    obtain⟨b,vs,e,hσ,hO,hr⟩:=hck
    exact⟨b,vs,e,hσ,hO,relL_bnd _ _ (bndO_at (i:=i) hb (by rw [List.getElem?_take_of_lt hi];exact hc)) hr⟩
   |opn e q j l=>
    obtain⟨h1,h2,h3,h4,h5,b,vss,vs,rest,e,hσ,hO,hr,hcc,hcap,hl⟩:=hck
    exact⟨h1,h2,h3,h4,h5,b,vss,vs,rest,e,hσ,hO,hr,relL_bnd _ _ (bndO_opn (i:=i) hb (by rw [List.getElem?_take_of_lt hi];exact hc)) hcc,hcap,hl⟩
   |_=>exact hck
  ·cases hx
 lt i x b hx hb:=by
  rw [List.getElem?_take]at hx
  split at hx
  ·exact H.lt i x b hx hb
  ·cases hx
 apart i j c c' x y b hc hc' hl hl' hx hy hb hb':=by
  rw [List.getElem?_take]at hx hy hc hc'
  split at hx<;>split at hy<;>first|(rename_i h1 h2;rw [if_pos h1]at hc;rw [if_pos h2]at hc';exact H.apart i j c c' x y b hc hc' hl hl' hx hy hb hb')|cases hx|cases hy
 psn i c x b hc hl hx hb:=by
  rw [List.getElem?_take]at hx hc
  split at hx
  ·rename_i h1;rw [if_pos h1]at hc;exact H.psn i c x b hc hl hx hb
  ·cases hx
theorem Fr.take {w0 σ0 β0 w σ β} (F:Fr w0 σ0 β0 w σ β) {n:Nat} (hn:β0.length≤n):Fr w0 σ0 β0 w σ (β.take n):=
 ⟨F.os,F.tape,F.output,F.size,F.block,F.le,F.new,fun i x hx=>by
  have:i<β0.length:=by
   rcases Nat.lt_or_ge i β0.length with h'|h'
   ·exact h'
   ·rw [List.getElem?_eq_none h']at hx;cases hx
  rw [List.getElem?_take_of_lt (by omega)];exact F.pre i x hx,fun i x b hx hb=>by
  rw [List.getElem?_take]at hx
  split at hx
  ·exact F.fresh i x b hx hb
  ·cases hx⟩
def gets (hs:List Nat) (j:Nat):Nat:=(hs[j]?).getD 0
def LeT (ρ:Nat→Nat) (tm own:SS):List (Nat×SV)→Prop
 |[]=>True
 |(t,s)::r=>Imp (nrm own.own (tlook tm.tm t)) (ren ρ s)∧LeT ρ tm own r
def LeL (own:List Chunk):List SV→List SV→Prop
 |[],[]=>True
 |x::xs,y::ys=>Imp (nrm own x) y∧LeL own xs ys
 |_,_=>False
theorem LeL.ok {w σ β own} (H:HeapOK w σ β own):∀{l l':List SV} {vs:List Value},LeL own l l'→relL σ β l vs→relL σ β l' vs
 |[],[],_,_,h=>h
 |[],_::_,_,h,_=>h.elim
 |_::_,[],_,h,_=>h.elim
 |x::xs,y::ys,vs,h,hr=>by
  simp only [relL]at hr;obtain⟨v,vs',rfl,h1,h2⟩:=hr
  exact relL_cons.2 ⟨h.1 _ _ _ (rel_nrm H _ _ h1),LeL.ok H h.2 h2⟩
def LeC (own:List Chunk) (ρ:Nat→Nat) (c c':Chunk):Prop:=
 match c,c' with
 |_, .dead =>True
 |.box l, .box l'=>LeL own l (renL ρ l')
 |.vec e r, .vec e' r'=>e=e'∧r=r'
 |.mat e r, .mat e' r'=>e=e'∧r=r'
 |.mapI l, .mapI l'=>l=l'
 |.mapS l, .mapS l'=>l=l'
 |.fro e r, .fro e' r'=>e=e'∧r=r'
 |.fru e r, .fru e' r'=>e=e'∧r=r'
 |.frb l, .frb l'=>l=l'
 |_,_=>False
def LeO (own:List Chunk) (ρ:Nat→Nat):List Nat→List Chunk→Prop
 |[],[]=>True
 |h::hs,c'::cs=>(match own[h]? with|some c=>LeC own ρ c c'|none=>False)∧LeO own ρ hs cs
 |_,_=>False
def firstN (n:Nat):Nat→List Nat→Bool
 |i,h::hs=>match Nat.ble n i with|true=>true|false=>Nat.beq h i && firstN n (i+1) hs
 |i,[]=>Nat.ble n i
theorem firstN_ok {n:Nat}:∀{i:Nat} {hs:List Nat},firstN n i hs=true→∀j,i+j<n→hs[j]? =some (i+j)
 |i,[],h,j,hj=>by have:=Nat.le_of_ble_eq_true h;omega
 |i,h::hs,e,j,hj=>by
  unfold firstN at e
  split at e
  ·rename_i hb;have:=Nat.le_of_ble_eq_true hb;omega
  ·rw [Bool.and_eq_true]at e
   have:=Nat.eq_of_beq_eq_true e.1;subst this
   cases j with
   |zero=>simp
   |succ j=>have:=firstN_ok e.2 j (by omega);simp only [List.getElem?_cons_succ];rw [this];congr 1;omega
def bndT (n:Nat):List (Nat×SV)→Bool
 |[]=>true
 |(_,s)::r=>bnd n s && bndT n r
def okHs (n:Nat) (hs:List Nat) (S':SS):Bool:=nodupB hs && firstN n 0 hs && Nat.ble n hs.length && bndT hs.length S'.tm && bndO hs.length S'.own
structure Le (n:Nat) (hs:List Nat) (S S':SS):Prop where
 bd:okHs n hs S'=true
 own:LeO S.own (gets hs) hs S'.own
 tm:LeT (gets hs) S S S'.tm
theorem LeO.at {own:List Chunk} {ρ:Nat→Nat}:∀{hs:List Nat} {cs:List Chunk},LeO own ρ hs cs→cs.length=hs.length∧∀(i:Nat) (c':Chunk),cs[i]? =some c'→∃h c,hs[i]? =some h∧own[h]? =some c∧LeC own ρ c c'
 |[],[],_=>by simp
 |[],_::_,h=>h.elim
 |_::_,[],h=>h.elim
 |h0::hs,c0::cs,hh=>by
  obtain⟨h1,h2⟩:=LeO.at hh.2
  refine⟨by simp [h1],?_⟩
  intro i c' hc
  cases i with
  |zero=>
   simp at hc;subst hc
   have:=hh.1
   split at this
   ·rename_i c hc;exact⟨h0,c,by simp,hc,this⟩
   ·exact this.elim
  |succ i=>simp at hc;obtain⟨h,c,q1,q2,q3⟩:=h2 i c' hc;exact⟨h,c,by simpa using q1,q2,q3⟩
theorem LeT.at {ρ:Nat→Nat} {S S0:SS}:∀{l:List (Nat×SV)},LeT ρ S S0 l→∀t,tlook l t= .any ∨(∃s,tlook l t=s∧Imp (nrm S0.own (tlook S.tm t)) (ren ρ s))
 |[],_,t=> .inl rfl
 |(k,s)::r,h,t=>by
  simp only [tlook]
  split
  ·rename_i hb;have:=Nat.eq_of_beq_eq_true hb;subst this;exact .inr ⟨s,rfl,h.1⟩
  ·exact LeT.at h.2 t
theorem bndT_at {n:Nat}:∀{l:List (Nat×SV)} (t:Nat),bndT n l=true→bnd n (tlook l t)=true
 |[],t,_=>rfl
 |(k,s)::r,t,h=>by
  simp only [bndT,Bool.and_eq_true]at h
  simp only [tlook]
  split
  ·exact h.1
  ·exact bndT_at t h.2
mutual
theorem rel_unren {σ} {β β':List HB} {ρ:Nat→Nat} {n:Nat} (hρ:∀(j:Nat) (x:HB),j<n→β[ρ j]? =some x→β'[j]? =some x):∀(s:SV) (v:Value),bnd n s=true→rel σ β (ren ρ s) v→rel σ β' s v
 |.vec h,v,hb,hr=>by simp only [rel,ren,bnd]at*;obtain⟨x,hx,e⟩:=hr;exact⟨x,hρ _ _ (Nat.le_of_ble_eq_true hb) hx,e⟩
 |.ptr h o,v,hb,hr=>by simp only [rel,ren,bnd]at*;obtain⟨x,b,hx,e⟩:=hr;exact⟨x,b,hρ _ _ (Nat.le_of_ble_eq_true hb) hx,e⟩
 |.elt h i o,v,hb,hr=>by simp only [rel,ren,bnd]at*;obtain⟨x,b,hx,e⟩:=hr;exact⟨x,b,hρ _ _ (Nat.le_of_ble_eq_true hb) hx,e⟩
 |.agg l,v,hb,hr=>by simp only [rel,ren,bnd]at*;obtain⟨vs,e,hr⟩:=hr;exact⟨vs,e,relL_unren hρ l vs hb hr⟩
 |.tup l,v,hb,hr=>by simp only [rel,ren,bnd]at*;obtain⟨vs,e,hr⟩:=hr;exact⟨vs,e,relL_unren hρ l vs hb hr⟩
 |.fn f l,v,hb,hr=>by simp only [rel,ren,bnd]at*;obtain⟨vs,e,hr⟩:=hr;exact⟨vs,e,relL_unren hρ l vs hb hr⟩
 |.fnb f l,v,hb,hr=>by simp only [rel,ren,bnd]at*;obtain⟨vs,e,hr⟩:=hr;exact⟨vs,e,relL_unren hρ l vs hb hr⟩
 |.row h i,v,hb,hr=>by simp only [rel,ren,bnd]at*;obtain⟨x,y,hx,e⟩:=hr;exact⟨x,y,hρ _ _ (Nat.le_of_ble_eq_true hb) hx,e⟩
 |.mp h,v,hb,hr=>by simp only [rel,ren,bnd]at*;obtain⟨x,b,hx,e⟩:=hr;exact⟨x,b,hρ _ _ (Nat.le_of_ble_eq_true hb) hx,e⟩
 |.elt2 h i j o,v,hb,hr=>by simp only [rel,ren,bnd]at*;obtain⟨x,y,b,hx,e⟩:=hr;exact⟨x,y,b,hρ _ _ (Nat.le_of_ble_eq_true hb) hx,e⟩
 |.ifc t s,v,hb,hr=>by simp only [rel,ren,bnd]at*;obtain⟨u,e,hr⟩:=hr;exact⟨u,e,rel_unren hρ s u hb hr⟩
 |.any,_,_,_=>by simp [rel]
 |.num _ _,_,_,h| .bp _,_,_,h| .bl _,_,_,h| .str _,_,_,h| .nil,_,_,h| .raw _,_,_,h| .psl _ _,_,_,h| .ful _ _,_,_,h| .pptr _,_,_,h| .shut _,_,_,h=>by simpa only [rel,ren]using h
theorem relL_unren {σ} {β β':List HB} {ρ:Nat→Nat} {n:Nat} (hρ:∀(j:Nat) (x:HB),j<n→β[ρ j]? =some x→β'[j]? =some x):∀(l:List SV) (vs:List Value),bndL n l=true→relL σ β (renL ρ l) vs→relL σ β' l vs
 |[],vs,_,h=>by simpa only [relL,renL]using h
 |s::l,vs,hb,hr=>by
  simp only [relL,renL,bndL,Bool.and_eq_true]at*
  obtain⟨v,vs',e,h1,h2⟩:=hr
  exact⟨v,vs',e,rel_unren hρ s v hb.1 h1,relL_unren hρ l vs' hb.2 h2⟩
end
theorem GG.weak {w0 σ0 β0 nt σ β S S' a w} {hs:List Nat} (g:GG w0 σ0 β0 nt σ β S a w) (hall:∀h,nt.free h=true) (h:Le β0.length hs S S'):∃β',GG w0 σ0 β0 nt σ β' S' a w:=by
 have hb:=h.bd
 simp only [okHs,Bool.and_eq_true]at hb
 obtain⟨⟨⟨⟨hnd,hfirst⟩,hn⟩,hbt⟩,hbo⟩:=hb
 have hnd:=nodupB_ok hnd
 have hn:=Nat.le_of_ble_eq_true hn
 obtain⟨hlen,hat⟩:=LeO.at h.own
 have hol:=g.hp.len
 let β':List HB:=hs.map fun h=>(β[h]?).getD (hb4 none 0 0 0)
 have hβ':∀(i:Nat) (x:HB),β'[i]? =some x→∃h,hs[i]? =some h∧β[h]? =some x:=by
  intro i x hx
  simp only [β',List.getElem?_map]at hx
  cases hi:hs[i]? with
  |none=>rw [hi]at hx;cases hx
  |some h=>
   rw [hi]at hx
   have hil:i<S'.own.length:=by
    rw [hlen]
    rcases Nat.lt_or_ge i hs.length with h'|h'
    ·exact h'
    ·rw [List.getElem?_eq_none h']at hi;cases hi
   obtain⟨h',c,q1,q2,_⟩:=hat i _ (List.getElem?_eq_getElem hil)
   rw [hi]at q1;cases q1
   have hlt:h<β.length:=by
    rw [hol]
    rcases Nat.lt_or_ge h S.own.length with h'|h'
    ·exact h'
    ·rw [List.getElem?_eq_none h']at q2;cases q2
   simp only [Option.map_some,Option.some.injEq]at hx
   refine⟨h,rfl,?_⟩
   rw [List.getElem?_eq_getElem hlt]at hx⊢
   simp only [Option.getD_some]at hx;rw [hx]
 have lv:∀{d c:Chunk},LeC S.own (gets hs) d c→live c=true→live d=true:=by
  intro d c q hl
  cases c<;>cases d<;>simp only [LeC,live]at* <;>first|rfl|exact q.elim|cases hl
 have hρ:∀(j:Nat) (x:HB),j<hs.length→β[gets hs j]? =some x→β'[j]? =some x:=by
  intro j x hj hx
  simp only [gets,List.getElem?_eq_getElem hj,Option.getD_some]at hx
  simp only [β',List.getElem?_map,List.getElem?_eq_getElem hj,Option.map_some,hx,Option.getD_some]
 refine⟨β',⟨?_,g.sz,g.df,⟨g.hp.ph,?_,?_,?_,?_,?_⟩,⟨g.fr.os,g.fr.tape,g.fr.output,g.fr.size,g.fr.block,g.fr.le,g.fr.new,?_,?_⟩,⟨g.pn.at_,fun i x b hx _ hb=>by
  obtain⟨h,_,hh⟩:=hβ' i x hx
  exact g.pn.fr h x b hh (.inl (hall h)) hb⟩⟩⟩
 ·intro t
  rcases LeT.at h.tm t with e|⟨s,e,hi⟩
  ·rw [e];simp [rel]
  ·rw [e]
   have hbs:=bndT_at t hbt
   rw [e]at hbs
   exact rel_unren hρ _ _ hbs (hi _ _ _ (rel_nrm g.hp _ _ (g.tm t)))
 ·simp [β',hlen]
 ·intro i c' x hc hx
  obtain⟨h0,hi,hxx⟩:=hβ' i x hx
  obtain⟨h',c,q1,q2,q3⟩:=hat i c' hc
  rw [hi]at q1;cases q1
  have hck:=g.hp.ok h0 c x q2 hxx
  unfold LeC at q3
  split at q3
  ·trivial
  ·obtain⟨b,vs,e,hσ,hO,hr⟩:=hck
   exact⟨b,vs,e,hσ,hO,relL_unren hρ _ _ (bndO_at hbo hc) (q3.ok g.hp hr)⟩
  ·obtain⟨rfl,rfl⟩:=q3;exact hck
  ·obtain⟨rfl,rfl⟩:=q3;exact hck
  ·subst q3;exact hck
  ·subst q3;exact hck
  ·obtain⟨rfl,rfl⟩:=q3;exact hck
  ·obtain⟨rfl,rfl⟩:=q3;exact hck
  ·subst q3;exact hck
  ·exact q3.elim
 ·intro i x b hx hb
  obtain⟨h0,hi,hxx⟩:=hβ' i x hx
  exact g.hp.lt h0 x b hxx hb
 ·intro i j c c' x y b hc hc' hl hl' hx hy hb hb'
  obtain⟨h0,hi,hxx⟩:=hβ' i x hx
  obtain⟨h1,hj,hyy⟩:=hβ' j y hy
  obtain⟨h0',d,q1,q2,q3⟩:=hat i c hc
  obtain⟨h1',d',q1',q2',q3'⟩:=hat j c' hc'
  rw [hi]at q1;cases q1
  rw [hj]at q1';cases q1'
  have:=g.hp.apart h0 h1 d d' x y b q2 q2' (lv q3 hl) (lv q3' hl') hxx hyy hb hb'
  subst this
  have l1:i<hs.length:=by
   rcases Nat.lt_or_ge i hs.length with h'|h'
   ·exact h'
   ·rw [List.getElem?_eq_none h']at hi;cases hi
  exact(List.getElem?_inj l1 hnd).1 (hi.trans hj.symm)
 ·intro i c x b hc hl hx hb
  obtain⟨h0,hi,hxx⟩:=hβ' i x hx
  obtain⟨h0',d,q1,q2,q3⟩:=hat i c hc
  rw [hi]at q1;cases q1
  exact g.hp.psn h0 d x b q2 (lv q3 hl) hxx hb
 ·intro i x hx
  have hil:i<β0.length:=by
   rcases Nat.lt_or_ge i β0.length with h'|h'
   ·exact h'
   ·rw [List.getElem?_eq_none h']at hx;cases hx
  have:=firstN_ok hfirst i (by omega)
  refine hρ i x (by omega) ?_
  simp only [gets,this,Option.getD_some,Nat.zero_add]
  exact g.fr.pre i x hx
 ·intro i x b hx hb
  obtain⟨h0,hi,hxx⟩:=hβ' i x hx
  exact g.fr.fresh h0 x b hxx hb
theorem GG.freezeL {w0 σ0 β0 nt σ β S a w} (g:GG w0 σ0 β0 nt σ β S a w) {h:Nat} {x:HB} {σ':PH} {c0 c:Chunk} (hx:β[h]? =some x) (hle:PH.le σ σ') (hnew:∀b cs,σ' b=some cs→σ b=some cs∨(b∈x.blks∧Blk w b cs))
  (hc0:S.own[h]? =some c0) (hl0:live c0=true) (hlc:live c=false) (hc:chunkOK w σ' β c x):
  GG w0 σ0 β0 nt σ' β ⟨S.tm,S.own.set h c⟩ a w:=by
 have hhl:h<S.own.length:=by
  rcases Nat.lt_or_ge h S.own.length with h'|h'
  ·exact h'
  ·rw [List.getElem?_eq_none h']at hc0;cases hc0
 have key:∀(i:Nat) (d:Chunk),(S.own.set h c)[i]? =some d→live d=true→i≠h∧S.own[i]? =some d:=by
  intro i d hd hl
  by_cases hi:i=h
  ·subst hi;rw [List.getElem?_set_self hhl]at hd;cases hd;rw [hlc]at hl;cases hl
  ·exact⟨hi,by rwa [List.getElem?_set_ne (Ne.symm hi)]at hd⟩
 have hn:∀(i:Nat) (d:Chunk) (y:HB) (b:Nat),i≠h→S.own[i]? =some d→live d=true→β[i]? =some y→b∈y.blks→σ b=none→σ' b=none:=by
  intro i d y b hi hd hl hy hb h0
  cases hs:σ' b with
  |none=>rfl
  |some cs=>
   rcases hnew b cs hs with h1|⟨h1,_⟩
   ·rw [h0]at h1;cases h1
   ·exact(hi (g.hp.apart i h d c0 y x b hd hc0 hl hl0 hy hx hb h1)).elim
 refine⟨g.tm.mono hle (HB.le.refl _),g.sz,g.df,⟨?_,?_,?_,g.hp.lt,?_,?_⟩,⟨g.fr.os,g.fr.tape,g.fr.output,g.fr.size,g.fr.block,g.fr.le.trans hle,?_,g.fr.pre,g.fr.fresh⟩,g.pn⟩
 ·intro k c hk
  rcases hnew k c hk with h1|⟨_,h1⟩
  ·exact g.hp.ph k c h1
  ·exact h1
 ·simp [g.hp.len]
 ·intro i d y hd hy
  by_cases hi:i=h
  ·subst hi
   rw [List.getElem?_set_self hhl]at hd;cases hd
   rw [hx]at hy;cases hy;exact hc
  ·rw [List.getElem?_set_ne (Ne.symm hi)]at hd
   exact chunkOK.step hle (HB.le.refl _) (g.hp.ok i d y hd hy) (fun hl b hb=>hn i d y b hi hd hl hy hb) (fun _ _ _=>rfl)
 ·intro i j d d' y z k hd hd' hl hl' hy hz hk hk'
  exact g.hp.apart i j d d' y z k (key i d hd hl).2 (key j d' hd' hl').2 hl hl' hy hz hk hk'
 ·intro i d y b hd hl hy hb
  obtain⟨hi,hd⟩:=key i d hd hl
  exact hn i d y b hi hd hl hy hb (g.hp.psn i d y b hd hl hy hb)
 ·intro k c hk hlt
  rcases hnew k c hk with h1|⟨h1,_⟩
  ·exact g.fr.new k c h1 hlt
  ·rcases g.fr.fresh h x k hx h1 with h2|h2
   ·omega
   ·exact .inr h2
theorem GG.freeze {w0 σ0 β0 nt σ β S a w} (g:GG w0 σ0 β0 nt σ β S a w) {h b:Nat} {x:HB} {cs:List Value} {c0 c:Chunk} (hx:β[h]? =some x) (hb:x.blk=some b) (hB:Blk w b cs)
  (hc0:S.own[h]? =some c0) (hl0:live c0=true) (hlc:live c=false)
  (hc:chunkOK w (fun k=>if k=b then some cs else σ k) β c x):
  GG w0 σ0 β0 nt (fun k=>if k=b then some cs else σ k) β ⟨S.tm,S.own.set h c⟩ a w:=by
 have hσ:=g.hp.psn h c0 x b hc0 hl0 hx (HB.blk_mem hb)
 refine g.freezeL hx ?_ ?_ hc0 hl0 hlc hc
 ·intro k c hk
  have:k≠b:=by rintro rfl;rw [hσ]at hk;cases hk
  simp only [if_neg this];exact hk
 ·intro k c hk
  by_cases hkb:k=b
  ·subst hkb;simp at hk;subst hk;exact .inr ⟨HB.blk_mem hb,hB⟩
  ·simp only [if_neg hkb]at hk;exact .inl hk
theorem GG.frzMat {w0 σ0 β0 nt σ β S a w} (g:GG w0 σ0 β0 nt σ β S a w) {h esz:Nat} {ms:List (List (List SV))} (hc:S.own[h]? =some (.mat esz ms)):
  ∃σ',GG w0 σ0 β0 nt σ' β ⟨S.tm,S.own.set h (.fro 1 (ms.map fun m=>[.psl esz m]))⟩ a w:=by
 have hhl:h<β.length:=by
  rw [g.hp.len]
  rcases Nat.lt_or_ge h S.own.length with h'|h'
  ·exact h'
  ·rw [List.getElem?_eq_none h']at hc;cases hc
 obtain⟨x,hx⟩:∃x,β[h]? =some x:=⟨_,List.getElem?_eq_getElem hhl⟩
 obtain⟨h1,h2,h3,h4,h5,h6⟩:=g.hp.ok _ _ _ hc hx
 let cellsAt:Nat→Option (List Value):=fun b=>match w.heap[b]? with|some (.cells cs _ _)=>some cs.toList|_=>none
 have hcell:∀b cs,Blk w b cs→cellsAt b=some cs:=by
  rintro b cs ⟨T,fz,hb⟩;simp only [cellsAt,hb]
 let σ':PH:=fun b=>if b∈x.blks then cellsAt b else σ b
 have hle:PH.le σ σ':=by
  intro b cs hb
  have:b∉x.blks:=fun hm=>by rw [g.hp.psn h _ x b hc rfl hx hm]at hb;cases hb
  simp only [σ',if_neg this];exact hb
 refine⟨σ',g.freezeL hx hle ?_ hc rfl rfl ⟨by simp [h2],?_⟩⟩
 ·intro b cs hb
  by_cases hm:b∈x.blks
  ·simp only [σ',if_pos hm,cellsAt]at hb
   split at hb
   ·rename_i cs' T fz hh;cases hb;exact .inr ⟨hm,T,fz,by rw [hh]⟩
   ·cases hb
  ·simp only [σ',if_neg hm]at hb;exact .inl hb
 ·have hrow:∀(i:Nat) (y:HI) (m:List (List SV)),x.inn[i]? =some y→ms[i]? =some m→rel σ' [] (.psl esz m) y.slice:=by
   intro i y m hy hm
   obtain⟨_,q2,q3,q4⟩:=h5 i y m hy hm
   simp only [rel]
   rcases q4 with⟨hn,rfl,hcap⟩|⟨b,vss,rest,hb,hσ,hO,hrr,hcap,hl⟩
   ·exact⟨adr y.blk y.z,y.cap,[],by simp [HI.slice,q2],by simp,by simp [relLL],by simp, .inl rfl⟩
   ·refine⟨some ⟨b,0,none⟩,y.cap,vss,by simp [HI.slice,adr,hb,q2],hcap,relLL.mono hle _ _ hrr,q3, .inr ⟨b,0,rfl,fun v hv=>hO.1 v (by simp [List.mem_append,hv]),[],rest,?_,rfl⟩⟩
    simp only [σ',if_pos (HB.inn_mem hy hb)]
    rw [hcell b _ hO.blk];simp
  have hrows:∀(l:List HI) (q:List (List (List SV))),l.length=q.length→(∀(i:Nat) (y:HI) (m:List (List SV)),l[i]? =some y→q[i]? =some m→rel σ' [] (.psl esz m) y.slice)→
    relLL σ' (q.map fun m=>[.psl esz m]) (l.map fun y=>[y.slice]):=by
   intro l
   induction l with
   |nil=>intro q hq _;cases q with
    |nil=>simp [relLL]
    |cons=>simp at hq
   |cons y l ih=>intro q hq hr;cases q with
    |nil=>simp at hq
    |cons m q=>
     simp only [List.map_cons]
     exact relLL_cons.2 ⟨relL_cons.2 ⟨hr 0 y m (by simp) (by simp),by simp [relL]⟩,ih q (by simpa using hq) (fun i z k hz hk=>hr (i+1) z k (by simpa using hz) (by simpa using hk))⟩
  have hfl:∀(l:List HI),(l.map fun y=>[y.slice]).flatten =l.map HI.slice:=by
   intro l;induction l with
   |nil=>rfl
   |cons y l ih=>simp only [List.map_cons,List.flatten_cons,ih];rfl
  simp only [rel]
  rcases h6 with⟨hb,hm,hcap⟩|⟨b,rest,hb,hσ,hO,hcap,hl⟩
  ·subst hm
   exact⟨adr x.blk x.z,x.cap,[],by simp [HB.slice,h2],by simp,by simp [relLL],by simp,by simp⟩
  ·refine⟨some ⟨b,0,none⟩,x.cap,x.inn.map fun y=>[y.slice],by simp [HB.slice,adr,hb,h2],by simpa using hcap,hrows _ _ h4 hrow,by intro r hr;simp only [List.mem_map]at hr;obtain⟨m,_,rfl⟩:=hr;rfl, .inr ⟨b,0,rfl,?_,[],rest,?_,rfl⟩⟩
   ·intro v hv;rw [hfl]at hv;exact hO.1 v (by simp [List.mem_append,List.mem_map]at hv⊢;left;exact hv)
   ·simp only [σ',if_pos (HB.blk_mem hb)]
    rw [hcell b _ hO.blk,hfl];simp
theorem relL_reset {σ β} {s':SV}:∀{l:List SV} {vs:List Value} {i:Nat} {s:SV},relL σ β l vs→l[i]? =some s→(∀v,rel σ β s v→rel σ β s' v)→relL σ β (l.set i s') vs
 |[],vs,i,s,h,hi,_=>by simp at hi
 |x::l,vs,0,s,h,hi,hs=>by
  simp at hi;subst hi
  simp only [relL]at h;obtain⟨v,vs',rfl,h1,h2⟩:=h
  exact relL_cons.2 ⟨hs v h1,h2⟩
 |x::l,vs,i+1,s,h,hi,hs=>by
  simp only [relL]at h;obtain⟨v,vs',rfl,h1,h2⟩:=h
  exact relL_cons.2 ⟨h1,relL_reset h2 (by simpa using hi) hs⟩
theorem GG.reown {w0 σ0 β0 nt σ β S a w} (g:GG w0 σ0 β0 nt σ β S a w) {h:Nat} {c c':Chunk} (hc:S.own[h]? =some c) (hl:live c'=live c) (hk:∀x,β[h]? =some x→chunkOK w σ β c' x):
  GG w0 σ0 β0 nt σ β ⟨S.tm,S.own.set h c'⟩ a w:=by
 have key:∀(i:Nat) (d:Chunk),(S.own.set h c')[i]? =some d→live d=true→∃d',S.own[i]? =some d'∧live d'=true:=by
  intro i d hd hld
  by_cases hi:h=i
  ·subst hi
   have hlt:h<S.own.length:=by
    rcases Nat.lt_or_ge h S.own.length with h'|h'
    ·exact h'
    ·rw [List.getElem?_eq_none h']at hc;cases hc
   rw [List.getElem?_set_self hlt]at hd;cases hd
   exact⟨c,hc,by rw [←hl];exact hld⟩
  ·rw [List.getElem?_set_ne hi]at hd;exact⟨d,hd,hld⟩
 refine⟨g.tm,g.sz,g.df,⟨g.hp.ph,by simp [g.hp.len],?_,g.hp.lt,?_,?_⟩,g.fr,g.pn⟩
 ·intro i d x hd hx
  by_cases hi:h=i
  ·subst hi
   have hlt:h<S.own.length:=by
    rcases Nat.lt_or_ge h S.own.length with h'|h'
    ·exact h'
    ·rw [List.getElem?_eq_none h']at hc;cases hc
   rw [List.getElem?_set_self hlt]at hd;cases hd
   exact hk x hx
  ·rw [List.getElem?_set_ne hi]at hd;exact g.hp.ok i d x hd hx
 ·intro i j d d' y z k hd hd' hld hld' hy hz hk hk'
  obtain⟨e,he,hle⟩:=key i d hd hld
  obtain⟨e',he',hle'⟩:=key j d' hd' hld'
  exact g.hp.apart i j e e' y z k he he' hle hle' hy hz hk hk'
 ·intro i d y k hd hld hy hk
  obtain⟨e,he,hle⟩:=key i d hd hld
  exact g.hp.psn i e y k he hle hy hk
theorem GG.nilBox {w0 σ0 β0 nt σ β S a w} (g:GG w0 σ0 β0 nt σ β S a w) {h i:Nat} {cells:List SV} (hc:S.own[h]? =some (.box cells)) (hi:cells[i]? =some .nil) (e:Nat):
  GG w0 σ0 β0 nt σ (β++[hb4 none e 0 0]) ⟨S.tm,S.own.set h (.box (cells.set i (.vec S.own.length)))++[.vec e []]⟩ a w:=by
 have hlt:h<S.own.length:=by
  rcases Nat.lt_or_ge h S.own.length with h'|h'
  ·exact h'
  ·rw [List.getElem?_eq_none h']at hc;cases hc
 have g1:=g.nilVec e
 have hc1:(S.own++[.vec e []])[h]? =some (.box cells):=by rw [List.getElem?_append_left hlt];exact hc
 have g2:=g1.reown (c':= .box (cells.set i (.vec S.own.length))) hc1 rfl (fun x hx=>by
  obtain⟨b,vs,h1,h2,h3,h4⟩:=g1.hp.ok _ _ _ hc1 hx
  refine⟨b,vs,h1,h2,h3,relL_reset h4 hi (fun v hv=>?_)⟩
  simp only [rel]at hv⊢
  exact⟨hb4 none e 0 0,by rw [←g.hp.len];simp,hv⟩)
 have e2:(S.own++[Chunk.vec e []]).set h (.box (cells.set i (.vec S.own.length)))=S.own.set h (.box (cells.set i (.vec S.own.length)))++[.vec e []]:=by
  rw [List.set_append_left _ _ hlt]
 rw [←e2];exact g2
theorem GG.noMat {w0 σ0 β0 nt σ β S a w} (g:GG w0 σ0 β0 nt σ β S a w) (esz:Nat):
  GG w0 σ0 β0 nt σ (β++[hb4 none 1 0 0]) ⟨S.tm,S.own++[.mat esz []]⟩ a w:=
 g.push ⟨rfl,rfl,by simp [HB.blks],rfl,fun i y m h=>by simp at h, .inl ⟨rfl,rfl,rfl⟩⟩ (by simp [HB.blks]) (by simp [HB.blks]) (by simp [HB.blks]) (by simp [HB.blks]) (by simp [HB.blks])
theorem GG.nilBoxM {w0 σ0 β0 nt σ β S a w} (g:GG w0 σ0 β0 nt σ β S a w) {h i:Nat} {cells:List SV} (hc:S.own[h]? =some (.box cells)) (hi:cells[i]? =some .nil) (e:Nat):
  GG w0 σ0 β0 nt σ (β++[hb4 none 1 0 0]) ⟨S.tm,S.own.set h (.box (cells.set i (.vec S.own.length)))++[.mat e []]⟩ a w:=by
 have hlt:h<S.own.length:=by
  rcases Nat.lt_or_ge h S.own.length with h'|h'
  ·exact h'
  ·rw [List.getElem?_eq_none h']at hc;cases hc
 have g1:=g.noMat e
 have hc1:(S.own++[.mat e []])[h]? =some (.box cells):=by rw [List.getElem?_append_left hlt];exact hc
 have g2:=g1.reown (c':= .box (cells.set i (.vec S.own.length))) hc1 rfl (fun x hx=>by
  obtain⟨b,vs,h1,h2,h3,h4⟩:=g1.hp.ok _ _ _ hc1 hx
  refine⟨b,vs,h1,h2,h3,relL_reset h4 hi (fun v hv=>?_)⟩
  simp only [rel]at hv⊢
  exact⟨hb4 none 1 0 0,by rw [←g.hp.len];simp,hv⟩)
 have e2:(S.own++[Chunk.mat e []]).set h (.box (cells.set i (.vec S.own.length)))=S.own.set h (.box (cells.set i (.vec S.own.length)))++[.mat e []]:=by
  rw [List.set_append_left _ _ hlt]
 rw [←e2];exact g2
def vecsAt (n:Nat):Nat→List Chunk→List Nat
 |_,[]=>[]
 |i, .vec _ _::r=>match Nat.ble n i with|true=>i::vecsAt n (i+1) r|false=>vecsAt n (i+1) r
 |i, .mat _ _::r=>match Nat.ble n i with|true=>i::vecsAt n (i+1) r|false=>vecsAt n (i+1) r
 |i,_::r=>vecsAt n (i+1) r
def runF:List Nat→SS→(SS→Prop)→Prop
 |[],S,k=>k S
 |h::r,S,k=>match S.own[h]? with
  |some (.vec e rows)=>forceL (S.own.set h (.fro e rows)) fun own=>S.withTm fun tm=>runF r ⟨tm,own⟩ k
  |some (.mat e ms)=>forceL (S.own.set h (.fro 1 (ms.map fun m=>[.psl e m]))) fun own=>S.withTm fun tm=>runF r ⟨tm,own⟩ k
  |_=>False
inductive Ghost
 |fz (h:Nat)
 |fa
 |fm (h:Nat)
 |fb (h:Nat)
 |nb (h i e:Nat)
 |nm (h i e:Nat)
 |op (h i:Nat)
 |cl (h:Nat)
 |wk (hs:List Nat) (S':SS)
def runG (n:Nat) (nm:Bool):List Ghost→SS→(SS→Prop)→Prop
 |[],S,k=>k S
 |.fz h::r,S,k=>match S.own[h]? with
  |some (.vec e rows)=>forceL (S.own.set h (.fro e rows)) fun own=>S.withTm fun tm=>runG n nm r ⟨tm,own⟩ k
  |_=>False
 |.fa ::r,S,k=>runF (vecsAt n 0 S.own) S fun S=>runG n nm r S k
 |.fm h::r,S,k=>match S.own[h]? with
  |some (.mat e ms)=>forceL (S.own.set h (.fro 1 (ms.map fun m=>[.psl e m]))) fun own=>S.withTm fun tm=>runG n nm r ⟨tm,own⟩ k
  |_=>False
 |.fb h::r,S,k=>match S.own[h]? with
  |some (.box cells)=>match closedL (nrmL S.own cells)with
   |true=>forceVL (nrmL S.own cells) fun cells=>forceL (S.own.set h (.frb cells)) fun own=>S.withTm fun tm=>runG n nm r ⟨tm,own⟩ k
   |false=>False
  |_=>False
 |.nb h i e::r,S,k=>match S.own[h]? with
  |some (.box cells)=>match cells[i]? with
   |some .nil =>forceN S.own.length fun m=>forceL (cells.set i (.vec m)) fun cells=>forceL (S.own.set h (.box cells)++[.vec e []]) fun own=>S.withTm fun tm=>runG n nm r ⟨tm,own⟩ k
   |_=>False
  |_=>False
 |.nm h i e::r,S,k=>match S.own[h]? with
  |some (.box cells)=>match cells[i]? with
   |some .nil =>forceN S.own.length fun m=>forceL (cells.set i (.vec m)) fun cells=>forceL (S.own.set h (.box cells)++[.mat e []]) fun own=>S.withTm fun tm=>runG n nm r ⟨tm,own⟩ k
   |_=>False
  |_=>False
 |.op h i::r,S,k=>match S.own[h]? with
  |some (.vec e rows)=>∃row,rows[i]? =some row∧forceVL row fun cells=>forceL (S.own.set h (.opn e rows i cells)) fun own=>S.withTm fun tm=>runG n nm r ⟨tm,own⟩ k
  |_=>False
 |.cl h::r,S,k=>match S.own[h]? with
  |some (.opn e rows i cells)=>match closedL (nrmL S.own cells)with
   |true=>forceVL (nrmL S.own cells) fun cells=>forceL (S.own.set h (.vec e (rows.set i cells))) fun own=>S.withTm fun tm=>runG n nm r ⟨tm,own⟩ k
   |false=>False
  |_=>False
 |.wk hs S'::r,S,k=>match nm with
  |true=>Le n hs S S'∧runG n true r S' k
  |false=>False
inductive Gh (n:Nat) (nm:Bool) (k:SS→Prop) (S:SS):Prop
 |mk (l:List Ghost) (h:runG n nm l S k):Gh n nm k S
theorem lt_of_get? {α:Type} {l:List α} {i:Nat} {a:α} (h:l[i]? =some a):i<l.length:=by
 rcases Nat.lt_or_ge i l.length with h'|h'
 ·exact h'
 ·rw [List.getElem?_eq_none h']at h;cases h
theorem GG.frzVec {w0 σ0 β0 nt σ β S a w} (g:GG w0 σ0 β0 nt σ β S a w) {h esz:Nat} {rows:List (List SV)} (ho:S.own[h]? =some (.vec esz rows)):
  ∃σ',GG w0 σ0 β0 nt σ' β ⟨S.tm,S.own.set h (.fro esz rows)⟩ a w:=by
 have hhl:h<β.length:=by rw [g.hp.len];exact lt_of_get? ho
 obtain⟨x,hx⟩:∃x,β[h]? =some x:=⟨_,List.getElem?_eq_getElem hhl⟩
 have hck:=g.hp.ok _ _ _ ho hx
 obtain⟨h1,h2,h3,h4⟩:=hck
 rcases h4 with⟨hbn,rfl,hcap⟩|⟨b,vss,rest,hb,hσ,hO,hr,hcap,hl⟩
 ·refine⟨σ,g.freezeL hx (PH.le.refl _) (fun _ _ h=> .inl h) ho rfl rfl ⟨h2,?_⟩⟩
  simp only [rel];exact⟨adr x.blk x.z,x.cap,[],by simp [HB.slice,h2],by simp,by simp [relLL],by simp,by simp⟩
 ·have hle:PH.le σ (fun k=>if k=b then some (vss.flatten++rest)else σ k):=by
   intro k c hk
   have:k≠b:=by rintro rfl;rw [hσ]at hk;cases hk
   simp only [if_neg this];exact hk
  refine⟨_,g.freeze hx hb hO.blk ho rfl rfl ?_⟩
  refine⟨h2,?_⟩
  simp only [rel]
  refine⟨some ⟨b,0,none⟩,x.cap,vss,by simp [HB.slice,adr,hb,h2],hcap,relLL.mono hle _ _ hr,h3, .inr ⟨b,0,rfl,fun v hv=>hO.1 v (by simp [List.mem_append,hv]),[],rest,by simp,rfl⟩⟩
theorem GG.openRow {w0 σ0 β0 nt σ β S a w} (g:GG w0 σ0 β0 nt σ β S a w) {h esz i:Nat} {rows:List (List SV)} {row:List SV} (ho:S.own[h]? =some (.vec esz rows)) (hi:rows[i]? =some row):
  GG w0 σ0 β0 nt σ β ⟨S.tm,S.own.set h (.opn esz rows i row)⟩ a w:=by
 refine g.reown ho rfl (fun x hx=>?_)
 obtain⟨h1,h2,h3,h4⟩:=g.hp.ok _ _ _ ho hx
 have hil:=lt_of_get? hi
 rcases h4 with⟨_,rfl,_⟩|⟨b,vss,rest,hb,hσ,hO,hr,hcap,hl⟩
 ·simp at hi
 ·obtain⟨vs,hvs,hrv⟩:=relLL_get hr hi
  have e:vss.set i vs=vss:=by
   apply List.ext_getElem?;intro j
   rw [List.getElem?_set]
   split
   ·subst_vars;split
    ·exact hvs.symm
    ·rename_i hn;exact absurd (lt_of_get? hvs) hn
   ·rfl
  refine⟨h1,h2,h3,hil,h3 _ (List.mem_of_getElem? hi),b,vss,vs,rest,hb,hσ,by rw [e];exact hO,hr,?_,hcap,hl⟩
  exact relL.mono (PH.le.refl _) (fun _ _ h=>by simp at h) _ _ hrv
theorem GG.closeRow {w0 σ0 β0 nt σ β S a w} (g:GG w0 σ0 β0 nt σ β S a w) {h esz i:Nat} {rows:List (List SV)} {cells:List SV} (ho:S.own[h]? =some (.opn esz rows i cells)) (hcl:closedL (nrmL S.own cells)=true):
  GG w0 σ0 β0 nt σ β ⟨S.tm,S.own.set h (.vec esz (rows.set i (nrmL S.own cells)))⟩ a w:=by
 refine g.reown ho rfl (fun x hx=>?_)
 obtain⟨h1,h2,h3,h4,h5,b,vss,vs,rest,hb,hσ,hO,hr,hc,hcap,hl⟩:=g.hp.ok _ _ _ ho hx
 have hc2:=relL_closed _ _ hcl (relL_nrm g.hp _ _ hc)
 have hlen:(nrmL S.own cells).length =esz:=by rw [←relL_length hc2,relL_length hc];exact h5
 have hil:i<vss.length:=by rw [relLL_length hr];exact h4
 refine⟨h1,by simpa using h2,?_, .inr ⟨b,vss.set i vs,rest,hb,hσ,hO,relLL_set hr hc2,by simpa using hcap,?_⟩⟩
 ·intro q hq
  rcases List.mem_or_eq_of_mem_set hq with hq|rfl
  ·exact h3 q hq
  ·exact hlen
 ·have e1:=flat_length (esz:=esz) (vss:=vss) (relLL_rows hr h3)
  have e2:(vss.set i vs).flatten.length =(vss.set i vs).length *esz:=flat_length (fun q hq=>by
   rcases List.mem_or_eq_of_mem_set hq with hq|rfl
   ·exact relLL_rows hr h3 q hq
   ·rw [relL_length hc];exact h5)
  rw [e2,List.length_set,←e1];exact hl
theorem runF_ok:∀(l:List Nat) (S:SS) (k:SS→Prop),runF l S k→∀{w0 σ0 β0 nt σ β a w},GG w0 σ0 β0 nt σ β S a w→∃S' σ' β',k S'∧GG w0 σ0 β0 nt σ' β' S' a w
 |[],S,k,h,w0,σ0,β0,nt,σ,β,a,w,g=>⟨S,σ,β,h,g⟩
 |hh::r,S,k,h,w0,σ0,β0,nt,σ,β,a,w,g=>by
  simp only [runF]at h
  split at h
  ·rename_i e rows ho
   rw [forceL_eq]at h
   obtain⟨σ',g'⟩:=g.frzVec ho
   exact runF_ok r _ k h g'
  ·rename_i e ms ho
   rw [forceL_eq]at h
   obtain⟨σ',g'⟩:=g.frzMat ho
   exact runF_ok r _ k h g'
  ·exact h.elim
theorem runG_ok {n:Nat} {nm:Bool} {k:SS→Prop}:∀(l:List Ghost) (S:SS),runG n nm l S k→∀{w0 σ0 β0 nt σ β a w},β0.length=n→(nm=true→∀h,nt.free h=true)→GG w0 σ0 β0 nt σ β S a w→∃S' σ' β',k S'∧GG w0 σ0 β0 nt σ' β' S' a w
 |[],S,h,w0,σ0,β0,nt,σ,β,a,w,_,_,g=>⟨S,σ,β,h,g⟩
 |.wk hs S'::r,S,h,w0,σ0,β0,nt,σ,β,a,w,hn,hnm,g=>by
  cases nm with
  |false=>exact h.elim
  |true=>
   obtain⟨hle,h⟩:=h
   obtain⟨β',g'⟩:=g.weak (hnm rfl) (by rw [hn];exact hle)
   exact runG_ok r S' h hn hnm g'
 |.nb hh i e::r,S,h,w0,σ0,β0,nt,σ,β,a,w,hn,hnm,g=>by
  simp only [runG]at h
  split at h
  ·rename_i cells ho
   split at h
   ·rename_i hi
    have h:=forceN_ok h
    rw [forceL_eq,forceL_eq]at h
    exact runG_ok r _ h hn hnm (g.nilBox ho hi e)
   ·exact h.elim
  ·exact h.elim
 |.nm hh i e::r,S,h,w0,σ0,β0,nt,σ,β,a,w,hn,hnm,g=>by
  simp only [runG]at h
  split at h
  ·rename_i cells ho
   split at h
   ·rename_i hi
    have h:=forceN_ok h
    rw [forceL_eq,forceL_eq]at h
    exact runG_ok r _ h hn hnm (g.nilBoxM ho hi e)
   ·exact h.elim
  ·exact h.elim
 |.op hh i::r,S,h,w0,σ0,β0,nt,σ,β,a,w,hn,hnm,g=>by
  simp only [runG]at h
  split at h
  ·rename_i e rows ho
   obtain⟨row,hi,h⟩:=h
   rw [forceVL_eq,forceL_eq]at h
   exact runG_ok r _ h hn hnm (g.openRow ho hi)
  ·exact h.elim
 |.cl hh::r,S,h,w0,σ0,β0,nt,σ,β,a,w,hn,hnm,g=>by
  simp only [runG]at h
  split at h
  ·rename_i e rows i cells ho
   split at h
   ·rename_i hcl
    rw [forceVL_eq,forceL_eq]at h
    exact runG_ok r _ h hn hnm (g.closeRow ho hcl)
   ·exact h.elim
  ·exact h.elim
 |.fa ::r,S,h,w0,σ0,β0,nt,σ,β,a,w,hn,hnm,g=>by
  simp only [runG]at h
  obtain⟨S',σ',β',h,g'⟩:=runF_ok _ _ _ h g
  exact runG_ok r S' h hn hnm g'
 |.fm hh::r,S,h,w0,σ0,β0,nt,σ,β,a,w,hn,hnm,g=>by
  simp only [runG]at h
  split at h
  ·rename_i esz ms ho
   rw [forceL_eq]at h
   obtain⟨σ',g'⟩:=g.frzMat ho
   exact runG_ok r _ h hn hnm g'
  ·exact h.elim
 |.fz hh::r,S,h,w0,σ0,β0,nt,σ,β,a,w,hn,hnm,g=>by
  simp only [runG]at h
  split at h
  ·rename_i esz rows ho
   rw [forceL_eq]at h
   obtain⟨σ',g'⟩:=g.frzVec ho
   exact runG_ok r _ h hn hnm g'
  ·exact h.elim
 |.fb hh::r,S,h,w0,σ0,β0,nt,σ,β,a,w,hn,hnm,g=>by
  simp only [runG]at h
  split at h
  ·rename_i cells ho
   split at h
   ·rename_i hcl
    rw [forceVL_eq,forceL_eq]at h
    have hhl:hh<β.length:=by rw [g.hp.len];exact lt_of_get? ho
    obtain⟨x,hx⟩:∃x,β[hh]? =some x:=⟨_,List.getElem?_eq_getElem hhl⟩
    obtain⟨b,vs,hb,hσ,hO,hr⟩:=g.hp.ok _ _ _ ho hx
    have hle:PH.le σ (fun k=>if k=b then some vs else σ k):=by
     intro k c hk
     have:k≠b:=by rintro rfl;rw [hσ]at hk;cases hk
     simp only [if_neg this];exact hk
    refine runG_ok r _ h hn hnm (g.freeze hx hb hO.blk ho rfl rfl ?_)
    exact⟨b,vs,hb,relL.mono hle (HB.le.refl _) _ _ (relL_closed _ _ hcl (relL_nrm g.hp _ _ hr)),hO.1,[],[],by simp,rfl⟩
   ·exact h.elim
  ·exact h.elim
theorem Gh_ok {n:Nat} {nm:Bool} {k:SS→Prop} {S:SS} (h:Gh n nm k S) {w0 σ0 β0 nt σ β a w} (hn:β0.length=n) (hnm:nm=true→∀h,nt.free h=true) (g:GG w0 σ0 β0 nt σ β S a w):∃S' σ' β',k S'∧GG w0 σ0 β0 nt σ' β' S' a w:=by
 obtain⟨l,h⟩:=h;exact runG_ok l S h hn hnm g
end Go.Sx
end
section
namespace Go.Sx
def conj:List Prop→Prop
 |[]=>True
 |p::l=>match l with
  |[]=>p
  |l=>p∧conj l
theorem conj_cons (p:Prop) (l:List Prop):conj (p::l)↔p∧conj l:=by
 cases l with
 |nil=>simp [conj]
 |cons q l=>simp [conj]
theorem conj_append:∀(l m:List Prop),conj (l++m)↔conj l∧conj m
 |[],m=>by simp [conj]
 |p::l,m=>by rw [List.cons_append,conj_cons,conj_cons,conj_append l m,and_assoc]
def plainTy (P:Program):Nat→TypeId→Bool
 |0,_=>false
 |n+1,t=>match P.underlying t with
  |some (.int _)=>true
  |some .string =>true
  |some .bool =>true
  |some (.struct fs)=> !(P.stoodInHeld t) && fs.toList.all fun f=>f.name != "_" && plainTy P n f.type
  |some (.array _ e)=>plainTy P n e
  |_=>false
def boolP (s:SV):Option Prop:=
 match s with
 |.bl b=>some (b=true)
 |.bp p=>some p
 |_=>none
def eqF (E:Env) (rec:Nat→List SV→List SV→Option (List Prop)):List Field→List SV→List SV→Option (List Prop)
 |[],_,_=>some []
 |f::fs,xs,ys=>match look E.tys f.type with
  |some df=>match rec f.type ((xs.drop f.offset).take df.size) ((ys.drop f.offset).take df.size)with
   |some l=>match eqF E rec fs xs ys with
    |some r=>some (l++r)
    |none=>none
   |none=>none
  |none=>none
def eqAr (rec:List SV→List SV→Option (List Prop)) (sz:Nat) (xs ys:List SV):List Nat→Option (List Prop)
 |[]=>some []
 |i::is=>match rec ((xs.drop (i*sz)).take sz) ((ys.drop (i*sz)).take sz)with
  |some l=>match eqAr rec sz xs ys is with
   |some r=>some (l++r)
   |none=>none
  |none=>none
def eqL (E:Env):Nat→Nat→List SV→List SV→Option (List Prop)
 |0,_,_,_=>none
 |n+1,t,xs,ys=>match look E.tys t with
  |some d=>match d.desc with
   |.int _=>match xs,ys with
    |[.num k a],[.num k' b]=>match Nat.beq (ikc k) (ikc k')with
     |true=>some [a=b]
     |false=>none
    |_,_=>none
   |.string =>match xs,ys with
    |[.str a],[.str b]=>some [a=b]
    |_,_=>none
   |.bool =>match xs,ys with
    |[x],[y]=>match boolP x,boolP y with
     |some p,some q=>some [p↔q]
     |_,_=>none
    |_,_=>none
   |.struct fs=>eqF E (eqL E n) fs.toList xs ys
   |.array len e=>match look E.tys e with
    |some de=>eqAr (fun a b=>eqL E n e a b) de.size xs ys (List.range' 0 len)
    |none=>none
   |_=>none
  |none=>none
def valOf (d:TyD) (vs:List Value):Value:=if aggD d.desc then .agg vs.toArray else vs.headD undef
theorem boolP_ok {σ β} {s:SV} {p:Prop} {v:Value} (h:boolP s=some p) (hr:rel σ β s v):∃b,v= .bool b∧(b=true↔p):=by
 unfold boolP at h
 split at h
 ·cases h;simp only [rel]at hr;exact⟨_,hr,Iff.rfl⟩
 ·cases h;simp only [rel]at hr;exact hr
 ·cases h
theorem relL_one {σ β} {s:SV} {vs:List Value} (h:relL σ β [s] vs):∃v,vs=[v]∧rel σ β s v:=by
 simp only [relL]at h;obtain⟨v,vs',rfl,hr,rfl⟩:=h;exact⟨v,rfl,hr⟩
theorem run_part {P:Program} {t:Nat} {d:TyD} (hT:TyOK P t d) {vs:List Value} {off:Nat} {l:List SV} {σ β} {xs:List SV} (hx:relL σ β xs vs) (hl:(xs.drop off).take d.size=l) (hne:aggD d.desc=false→∃s,l=[s]) (w:World):
  (part t vs.toArray off).run P w= .ok (valOf d ((vs.drop off).take d.size)) w:=by
 simp only [part,Sem.run_bind,run_isAgg hT,Result.andThen_ok,valOf]
 cases hag:aggD d.desc with
 |true=>
  simp only [if_true,Sem.run_bind,tyOK_size hT,Result.andThen_ok,Sem.run_pure]
  congr 2
  apply Array.ext'
  simp [List.take_drop,Nat.add_comm]
 |false=>
  obtain⟨s,rfl⟩:=hne hag
  have hr:=relL_take d.size (relL_drop off hx)
  rw [hl]at hr
  obtain⟨v,hv,_⟩:=relL_one hr
  have:vs[off]? =some v:=by
   have h0:((vs.drop off).take d.size)[0]? =some v:=by rw [hv];rfl
   rw [List.getElem?_take]at h0
   split at h0
   ·simpa using h0
   ·cases h0
  simp [hv,this]
theorem eqL_one {E:Env} {n t:Nat} {d:TyD} {xs ys:List SV} {l:List Prop} (hd:look E.tys t=some d) (h:eqL E n t xs ys=some l) (ha:aggD d.desc=false):(∃x,xs=[x])∧∃y,ys=[y]:=by
 cases n with
 |zero=>simp [eqL]at h
 |succ n=>
  simp only [eqL,hd]at h
  split at h
  ·split at h
   ·exact⟨⟨_,rfl⟩,_,rfl⟩
   ·cases h
  ·split at h
   ·exact⟨⟨_,rfl⟩,_,rfl⟩
   ·cases h
  ·split at h
   ·exact⟨⟨_,rfl⟩,_,rfl⟩
   ·cases h
  ·rename_i hdd;rw [hdd]at ha;simp [aggD]at ha
  ·rename_i hdd;rw [hdd]at ha;simp [aggD]at ha
  ·cases h
def eqArr (d:Nat) (elem:TypeId) (n:Nat) (xs ys:Array Value):List Nat→Sem Bool
 |[]=>pure true
 |i::is=>do
  let a←part elem xs (i*n)
  let b←part elem ys (i*n)
  let r←Op.equalIn d elem a b
  if(!r)=true then pure false else eqArr d elem n xs ys is
theorem run_equalIn_arr {P:Program} (w:World) (d:Nat) (t elem:TypeId) (len:Nat) (de:TyD) (xs ys:Array Value) (ht:P.underlying t=some (.array len elem)) (hT:TyOK P elem de):
  (Op.equalIn (d+1) t (.agg xs) (.agg ys)).run P w=(eqArr d elem de.size xs ys (List.range' 0 len)).run P w:=by
 simp only [Op.equalIn,Sem.run_bind,run_underlying ht,Result.andThen_ok,tyOK_size hT]
 simp only [Std.Legacy.Range.forIn_eq_forIn_range',Std.Legacy.Range.size,Nat.sub_zero,Nat.add_one_sub_one,Nat.div_one]
 generalize List.range' 0 len=is
 induction is generalizing w with
 |nil=>simp [eqArr]
 |cons i is ih=>
  simp only [List.forIn_cons,eqArr,Sem.run_bind,Sem.run_ite]
  generalize (part elem xs (i*de.size)).run P w=r1
  cases r1 with
  |ok a w1=>
   simp only [Result.andThen_ok]
   generalize (part elem ys (i*de.size)).run P w1=r2
   cases r2 with
   |ok b w2=>
    simp only [Result.andThen_ok]
    generalize (Op.equalIn d elem a b).run P w2=r3
    cases r3 with
    |ok r w3=>
     cases r
     ·simp only [Result.andThen_ok,Bool.not_false,if_true,Sem.run_pure]
     ·simp only [Result.andThen_ok,Bool.not_true,Bool.false_eq_true,if_false,Sem.run_pure]
      exact ih w3
    |halt x w3=>simp [Result.andThen]
   |halt x w2=>simp [Result.andThen]
  |halt x w1=>simp [Result.andThen]
theorem eqL_ok {E:Env} (hE:EnvOK E) {σ:PH} {β:List HB}:∀(n t:Nat) (d:TyD) (xs ys:List SV) (l:List Prop) (vs us:List Value),plainTy E.P n t=true→look E.tys t=some d→eqL E n t xs ys=some l→relL σ β xs vs→relL σ β ys us→
  ∃b,(∀w m,(Op.equalIn (m+n) t (valOf d vs) (valOf d us)).run E.P w= .ok b w)∧(b=true↔conj l)
 |0,_,_,_,_,_,_,_,hp,_,_,_,_=>by simp [plainTy]at hp
 |n+1,t,d,xs,ys,l,vs,us,hp,hd,h,hx,hy=>by
  have hT:=look_ok hE hd
  have hu:=hT.2
  simp only [eqL,hd]at h
  split at h
  ·rename_i k0 hdesc
   rw [hdesc]at hu
   split at h
   ·rename_i k a k' b
    split at h
    ·cases h
     obtain⟨v,rfl,h1⟩:=relL_one hx
     obtain⟨u,rfl,h2⟩:=relL_one hy
     rename_i hk
     have hk:k=k':=by have:=Nat.eq_of_beq_eq_true hk;revert this;cases k<;>cases k'<;>simp [ikc]
     subst hk
     simp only [rel]at h1 h2;subst h1;subst h2
     exact⟨a==b,fun w m=>by simp only [valOf,hdesc,aggD];exact run_equalIn_int w (m+n) t k k0 a b hu,by simp [conj]⟩
    ·cases h
   ·cases h
  ·rename_i hdesc
   rw [hdesc]at hu
   split at h
   ·rename_i a b
    cases h
    obtain⟨v,rfl,h1⟩:=relL_one hx
    obtain⟨u,rfl,h2⟩:=relL_one hy
    simp only [rel]at h1 h2;subst h1;subst h2
    exact⟨a.toList==b.toList,fun w m=>by simp only [valOf,hdesc,aggD];exact run_equalIn_string w (m+n) t a b hu,by simp only [conj];exact ba_eq⟩
   ·cases h
  ·rename_i hdesc
   rw [hdesc]at hu
   split at h
   ·rename_i x y
    split at h
    ·rename_i p q hp1 hq1
     cases h
     obtain⟨v,rfl,h1⟩:=relL_one hx
     obtain⟨u,rfl,h2⟩:=relL_one hy
     obtain⟨b1,rfl,e1⟩:=boolP_ok hp1 h1
     obtain⟨b2,rfl,e2⟩:=boolP_ok hq1 h2
     exact⟨b1==b2,fun w m=>by simp only [valOf,hdesc,aggD];exact run_equalIn_bool' w (m+n) t b1 b2 hu,by simp only [conj];rw [←e1,←e2];cases b1<;>cases b2<;>simp⟩
    ·cases h
   ·cases h
  ·rename_i fs hdesc
   rw [hdesc]at hu
   simp only [plainTy,hu,Bool.and_eq_true,Bool.not_eq_true']at hp
   obtain⟨hst,hall⟩:=hp
   have hfo:E.P.fieldsOf t=fs:=by simp [Program.fieldsOf,hu]
   have key:∀(fl:List Field) (l:List Prop),(fl.all fun f=>f.name != "_" && plainTy E.P n f.type)=true→eqF E (eqL E n) fl xs ys=some l→
     ∃b,(∀w m,(Op.eqFields (m+n) vs.toArray us.toArray fl).run E.P w= .ok b w)∧(b=true↔conj l):=by
    intro fl
    induction fl with
    |nil=>intro l _ h;simp only [eqF,Option.some.injEq]at h;subst h;exact⟨true,fun w m=>by simp [Op.eqFields],by simp [conj]⟩
    |cons f fl ih=>
     intro l hall h
     simp only [List.all_cons,Bool.and_eq_true]at hall
     obtain⟨⟨hnm,hpl⟩,hall⟩:=hall
     simp only [eqF]at h
     split at h
     ·rename_i df hdf
      split at h
      ·rename_i l1 hl1
       split at h
       ·rename_i r hr
        cases h
        obtain⟨b2,hb2,e2⟩:=ih r hall hr
        have hF:=look_ok hE hdf
        obtain⟨b1,hb1,e1⟩:=eqL_ok hE n f.type df _ _ l1 _ _ hpl hdf hl1 (relL_take df.size (relL_drop f.offset hx)) (relL_take df.size (relL_drop f.offset hy))
        have hnm':f.name≠ "_" :=by simpa using hnm
        refine⟨b1 && b2,fun w m=>?_,by rw [conj_append,←e1,←e2,Bool.and_eq_true]⟩
        simp only [Op.eqFields,if_pos hnm',Sem.run_bind]
        rw [run_part hF hx rfl (fun ha=>(eqL_one hdf hl1 ha).1) w,Result.andThen_ok,run_part hF hy rfl (fun ha=>(eqL_one hdf hl1 ha).2) w,Result.andThen_ok,hb1 w m,Result.andThen_ok]
        cases b1 with
        |true=>simpa using hb2 w m
        |false=>simp
       ·cases h
      ·cases h
     ·cases h
   obtain⟨b,hb,e⟩:=key fs.toList l hall h
   refine⟨b,fun w m=>?_,e⟩
   simp only [valOf,hdesc,aggD,if_true]
   rw [show m+(n+1)=(m+n)+1 by omega,run_equalIn_agg w (m+n) t _ _ (by rw [hfo];exact hu) hst,hfo]
   exact hb w m
  ·rename_i len e hdesc
   rw [hdesc]at hu
   simp only [plainTy,hu]at hp
   split at h
   ·rename_i de hde
    have hF:=look_ok hE hde
    have key:∀(is:List Nat) (l:List Prop),eqAr (fun a b=>eqL E n e a b) de.size xs ys is=some l→
      ∃b,(∀w m,(eqArr (m+n) e de.size vs.toArray us.toArray is).run E.P w= .ok b w)∧(b=true↔conj l):=by
     intro is
     induction is with
     |nil=>intro l h;simp only [eqAr,Option.some.injEq]at h;subst h;exact⟨true,fun w m=>by simp [eqArr],by simp [conj]⟩
     |cons i is ih=>
      intro l h
      simp only [eqAr]at h
      split at h
      ·rename_i l1 hl1
       split at h
       ·rename_i r hr
        cases h
        obtain⟨b2,hb2,e2⟩:=ih r hr
        obtain⟨b1,hb1,e1⟩:=eqL_ok hE n e de _ _ l1 _ _ hp hde hl1 (relL_take de.size (relL_drop (i*de.size) hx)) (relL_take de.size (relL_drop (i*de.size) hy))
        refine⟨b1 && b2,fun w m=>?_,by rw [conj_append,←e1,←e2,Bool.and_eq_true]⟩
        simp only [eqArr,Sem.run_bind]
        rw [run_part hF hx rfl (fun ha=>(eqL_one hde hl1 ha).1) w,Result.andThen_ok,run_part hF hy rfl (fun ha=>(eqL_one hde hl1 ha).2) w,Result.andThen_ok,hb1 w m,Result.andThen_ok]
        cases b1 with
        |true=>simpa using hb2 w m
        |false=>simp
       ·cases h
      ·cases h
    obtain⟨b,hb,e'⟩:=key _ l h
    refine⟨b,fun w m=>?_,e'⟩
    simp only [valOf,hdesc,aggD,if_true]
    rw [show m+(n+1)=(m+n)+1 by omega,run_equalIn_arr w (m+n) t e len de _ _ hu hF]
    exact hb w m
   ·cases h
  ·cases h
inductive AggOb (P:Program) (t:Nat) (K:Prop):Prop
 |mk (h:(plainTy P 6 t && !(P.eqGuardType P.depth t))=true) (hk:K):AggOb P t K
def eqaS (E:Env) (op:BinOp) (t:Nat) (xs ys:List SV) (k:SV→Prop):Prop:=
 need (look E.tys t) fun d=>match aggD d.desc with
  |true=>need (eqL E 6 t xs ys) fun l=>match op with
   |.eql =>AggOb E.P t (k (.bp (conj l)))
   |.neq =>AggOb E.P t (k (.bp (¬conj l)))
   |_=>False
  |false=>False
theorem eqaS_ok {E:Env} (hE:EnvOK E) {op:BinOp} {t:Nat} {xs ys:List SV} {σ:PH} {β:List HB} {a b:Value} {k:SV→Prop} (h:eqaS E op t xs ys k) (ha:rel σ β (.agg xs) a) (hb:rel σ β (.agg ys) b) (x y:Operand):
  ∃u s,(∀w,(do eqGuard op t x y a b;binOp op t a b:Sem Value).run E.P w= .ok u w)∧rel σ β s u∧k s:=by
 obtain⟨d,hd,h⟩:=need_some h
 split at h
 ·rename_i hag
  obtain⟨l,hl,h⟩:=need_some h
  simp only [rel]at ha hb
  obtain⟨vs,rfl,hx⟩:=ha
  obtain⟨us,rfl,hy⟩:=hb
  split at h
  ·obtain⟨hp,hk⟩:=h
   rw [Bool.and_eq_true,Bool.not_eq_true']at hp
   obtain⟨r,hr,e⟩:=eqL_ok hE 6 t d xs ys l vs us hp.1 hd hl hx hy
   simp only [valOf,hag,if_true]at hr
   refine⟨.bool r,_,fun w=>?_,by simp only [rel];exact⟨r,rfl,e⟩,hk⟩
   simp only [Sem.run_bind,run_eqGuard_agg w _ t x y _ _ hp.2,Result.andThen_ok,run_eql_struct,hr w 9994]
  ·obtain⟨hp,hk⟩:=h
   rw [Bool.and_eq_true,Bool.not_eq_true']at hp
   obtain⟨r,hr,e⟩:=eqL_ok hE 6 t d xs ys l vs us hp.1 hd hl hx hy
   simp only [valOf,hag,if_true]at hr
   refine⟨.bool (!r),_,fun w=>?_,by simp only [rel];exact⟨_,rfl,by rw [←e];cases r<;>simp⟩,hk⟩
   simp only [Sem.run_bind,run_eqGuard_agg w _ t x y _ _ hp.2,Result.andThen_ok,run_neq_struct,hr w 9994]
  ·exact h.elim
 ·exact h.elim
def indexVS (E:Env) (t:Nat) (x i:SV) (k:SV→Prop):Prop:=
 need (look E.tys t) fun d=>match i with
  |.num _ n=>match d.desc with
   |.string =>match x with
    |.str s=>∃(j:Nat) (b:UInt8),n=j∧s[j]? =some b∧k (.num .u8 b.toNat)
    |_=>False
   |.array len e=>need (look E.tys e) fun de=>match x with
    |.agg l=>∃j:Nat,n=j∧j<len∧need (sub (aggD de.desc) de.size (j*de.size) l) fun s=>forceV s k
    |_=>False
   |_=>False
  |_=>False
theorem indexVS_ok {E:Env} (hE:EnvOK E) {σ:PH} {β:List HB} {t:Nat} {sx si:SV} {v vi:Value} {k:SV→Prop} (h:indexVS E t sx si k) (hx:rel σ β sx v) (hi:rel σ β si vi):
  ∃u s,(∀w,(Instr.index t v vi).run E.P w= .ok u w)∧rel σ β s u∧k s:=by
 obtain⟨d,hd,h⟩:=need_some h
 have hu:=(look_ok hE hd).2
 split at h
 ·rename_i kd n
  simp only [rel]at hi;subst hi
  split at h
  ·rename_i hdesc
   rw [hdesc]at hu
   split at h
   ·rename_i str
    obtain⟨j,b,rfl,hj,hk⟩:=h
    simp only [rel]at hx;subst hx
    refine⟨.int .u8 b.toNat,_,fun w=>?_,by simp only [rel],hk⟩
    simp [Instr.index,asIntOf,run_underlying hu,hj]
   ·exact h.elim
  ·rename_i len e hdesc
   rw [hdesc]at hu
   obtain⟨de,hde,h⟩:=need_some h
   have hF:=look_ok hE hde
   split at h
   ·rename_i l
    obtain⟨j,rfl,hj,h⟩:=h
    obtain⟨s,hs,hk⟩:=need_some h
    have hk:=forceV_ok hk
    simp only [rel]at hx
    obtain⟨vs,rfl,hr⟩:=hx
    have hrun:∀(q:IntKind) w u,(part e vs.toArray (j*de.size)).run E.P w= .ok u w→(Instr.index t (.agg vs.toArray) (.int q (j:Int))).run E.P w= .ok u w:=by
     intro q w u hp
     simp [Instr.index,asIntOf,run_underlying hu,hj,tyOK_size hF,hp]
    cases hag:aggD de.desc with
    |true=>
     rw [hag]at hs;simp only [sub]at hs
     split at hs
     ·cases hs
      refine⟨.agg ((vs.drop (j*de.size)).take de.size).toArray,_,fun w=>hrun _ w _ ?_,by simp only [rel];exact⟨_,rfl,relL_take _ (relL_drop _ hr)⟩,hk⟩
      simp only [part,Sem.run_bind,run_isAgg hF,hag,Result.andThen_ok,if_true,tyOK_size hF]
      simp [List.take_drop,Nat.add_comm]
     ·cases hs
    |false=>
     rw [hag]at hs;simp only [sub]at hs
     obtain⟨v,hvv,hrv⟩:=relL_get hr hs
     refine⟨v,_,fun w=>hrun _ w _ ?_,hrv,hk⟩
     simp only [part,Sem.run_bind,run_isAgg hF,hag,Result.andThen_ok]
     simp [hvv]
   ·exact h.elim
  ·exact h.elim
 ·exact h.elim
def mset {α:Type} [BEq α]:List (α×SV)→α→SV→List (α×SV)
 |[],_,_=>[]
 |(k,u)::r,n,v=>if n==k then(n,v)::r else(k,u)::mset r n v
inductive MapOb {α:Type} [BEq α] (l:List (α×SV)) (n:α) (K:SV→Prop) (M:Prop):Prop
 |mk (hit:∀v,l.lookup n=some v→K v) (miss:l.lookup n=none→M):MapOb l n K M
def lookK (E:Env) (S:SS) (t:Nat) (x i:SV) (ok:Bool) (k:SV→Prop):Prop:=
 need (look E.tys t) fun d=>match d.desc with
  |.map kt et=>need (look E.tys et) fun de=>need (look E.tys kt) fun dk=>match x with
   |.mp h=>match S.own[h]? with
    |some (.mapI l)=>match dk.desc,i with
     |.int _, .num .i64 n=>MapOb l n (fun v=>match ok with|true=>k (.tup [v, .bl true])|false=>k v)
       (forceV (ofV de.zero) fun z=>match ok with|true=>k (.tup [z, .bl false])|false=>k z)
     |_,_=>False
    |some (.mapS l)=>match dk.desc,i with
     |.string, .str n=>MapOb l n (fun v=>match ok with|true=>k (.tup [v, .bl true])|false=>k v)
       (forceV (ofV de.zero) fun z=>match ok with|true=>k (.tup [z, .bl false])|false=>k z)
     |_,_=>False
    |_=>False
   |_=>False
  |_=>False
theorem findNow_ok {α:Type} [BEq α] [LawfulBEq α] {enc:α→Value} {D:TypeDesc} {σ:PH} (hsame:∀a b,Instr.sameNow D (enc a) (enc b)=some (a==b)) (n:α):∀(l:List (α×SV)) (es:List MapEntry) (j:Nat),relM enc σ l es→
  (l.lookup n=none∧Instr.findNow D (enc n) es j=some none)∨(∃v i e,l.lookup n=some v∧Instr.findNow D (enc n) es j=some (some (j+i,e.val))∧es[i]? =some e∧e.key=enc n∧rel σ [] v e.val∧
   ∀(v':SV) (e':MapEntry),e'.key=enc n→rel σ [] v' e'.val→relM enc σ (mset l n v') (es.set i e'))
 |[],es,j,h=>by simp only [relM]at h;subst h;exact .inl ⟨rfl,rfl⟩
 |(k,v)::l,es,j,h=>by
  obtain⟨e,es',rfl,hk,hv,ht⟩:=h
  cases hb:n==k with
  |true=>
   have:=eq_of_beq hb;subst this
   refine .inr ⟨v,0,e,by simp [List.lookup],?_,by simp,hk,hv,?_⟩
   ·simp only [Instr.findNow,hk,hsame,hb,Nat.add_zero]
   ·intro v' e' hk' hv'
    simp only [mset,hb,if_true,List.set_cons_zero]
    exact⟨e',es',rfl,hk',hv',ht⟩
  |false=>
   have e1:Instr.findNow D (enc n) (e::es') j=Instr.findNow D (enc n) es' (j+1):=by
    simp only [Instr.findNow,hk,hsame,hb]
   have e2:List.lookup n ((k,v)::l)=List.lookup n l:=by simp [List.lookup,hb]
   rw [e1,e2]
   rcases findNow_ok hsame n l es' (j+1) ht with⟨h1,h2⟩|⟨v',i,e',h1,h2,h3,h4,h5,h6⟩
   ·exact .inl ⟨h1,h2⟩
   ·refine .inr ⟨v',i+1,e',h1,by rw [h2];congr 3;omega,by simpa using h3,h4,h5,?_⟩
    intro v'' e'' hk' hv'
    simp only [mset,hb,List.set_cons_succ]
    exact⟨e,es'.set i e'',rfl,hk,hv,h6 v'' e'' hk' hv'⟩
instance :LawfulBEq ByteArray where
 eq_of_beq:=by intro a b h;rw [beq_toListBytes]at h;exact ba_eq.1 h
 rfl:=by intro a;rw [beq_toListBytes];simp
theorem same_int (a b:Int) (k:IntKind):Instr.sameNow (.int k) (encI a) (encI b)=some (a==b):=by simp [Instr.sameNow]
theorem same_str (a b:ByteArray):Instr.sameNow .string (encS a) (encS b)=some (a==b):=by simp [Instr.sameNow]
theorem checkKey_int {P:Program} {kt:TypeId} {k:IntKind} (hu:P.underlying kt=some (.int k)) (em:Bool) (v:Value) (w:World):(Instr.checkKey em 10000 kt v).run P w= .ok () w:=by
 have h:∀n,(Instr.checkKey em (n+1) kt v).run P w= .ok () w:=by
  intro n
  simp only [Instr.checkKey,Sem.run_bind,run_underlying hu,Result.andThen_ok]
  rfl
 exact h 9999
theorem checkKey_str {P:Program} {kt:TypeId} (hu:P.underlying kt=some .string) (em:Bool) (v:Value) (w:World):(Instr.checkKey em 10000 kt v).run P w= .ok () w:=by
 have h:∀n,(Instr.checkKey em (n+1) kt v).run P w= .ok () w:=by
  intro n
  simp only [Instr.checkKey,Sem.run_bind,run_underlying hu,Result.andThen_ok]
  rfl
 exact h 9999
theorem lookup_run {P:Program} {t kt et:TypeId} {D:TypeDesc} {z:Value} (hu:P.underlying t=some (.map kt et)) (hk:P.underlying kt=some D) (hz:∀w,(zeroValue et).run P w= .ok z w) {α:Type} [BEq α] [LawfulBEq α] {enc:α→Value} {σ:PH}
  (hsame:∀a b,Instr.sameNow D (enc a) (enc b)=some (a==b)) (hchk:∀em v w,(Instr.checkKey em 10000 kt v).run P w= .ok () w) {w:World} {b:Nat} {es:Array MapEntry} {clk:Nat} (hb:w.heap[b]? =some (.map es clk)) {l:List (α×SV)} (hr:relM enc σ l es.toList) (n:α) (ok:Bool):
  (∃v u,l.lookup n=some v∧rel σ [] v u∧(Instr.lookup t (.map (some b)) (enc n) ok).run P w= .ok (if ok then .tuple #[u, .bool true]else u) w)∨
  (l.lookup n=none∧(Instr.lookup t (.map (some b)) (enc n) ok).run P w= .ok (if ok then .tuple #[z, .bool false]else z) w):=by
 rcases findNow_ok hsame n l es.toList 0 hr with⟨h1,h2⟩|⟨v,i,e,h1,h2,h3,h4,h5,h6⟩
 ·right
  refine⟨h1,?_⟩
  simp only [Instr.lookup,Sem.run_bind,run_underlying hu,Result.andThen_ok,getObj,Sem.run,hb,hchk,Instr.findKey,run_underlying hk,h2,Sem.run_pure,hz]
 ·left
  refine⟨v,e.val,h1,h5,?_⟩
  simp only [Instr.lookup,Sem.run_bind,run_underlying hu,Result.andThen_ok,getObj,Sem.run,hb,hchk,Instr.findKey,run_underlying hk,h2,Sem.run_pure]
theorem lookK_ok {E:Env} (hE:EnvOK E) {w0 σ0 β0 nt σ β S a w} (g:GG w0 σ0 β0 nt σ β S a w) {t:Nat} {sx si:SV} {vx vi:Value} {ok:Bool} {k:SV→Prop} (h:lookK E S t sx si ok k) (hx:rel σ β sx vx) (hi:rel σ β si vi):
  ∃u s,(Instr.lookup t vx vi ok).run E.P w= .ok u w∧rel σ β s u∧k s:=by
 obtain⟨d,hd,h1⟩:=need_some h
 clear h;have h:=h1;clear h1
 have hu:=(look_ok hE hd).2
 split at h
 ·rename_i kt et hdesc
  rw [hdesc]at hu
  obtain⟨de,hde,h1⟩:=need_some h
  obtain⟨dk,hdk,h2⟩:=need_some h1
  clear h h1;have h:=h2;clear h2
  have hk:=(look_ok hE hdk).2
  have hz:=fun w=>tyOK_zero (look_ok hE hde) w
  have up:∀{v:SV} {u:Value},rel σ [] v u→rel σ β v u:=fun h=>rel.mono (PH.le.refl _) (fun _ _ h=>by simp at h) _ _ h
  split at h
  ·rename_i hh
   simp only [rel]at hx
   obtain⟨x,b,hxx,hb,rfl⟩:=hx
   split at h
   ·rename_i l hc
    split at h
    ·rename_i kd n hdk2
     rw [hdk2]at hk
     simp only [rel]at hi;subst hi
     obtain⟨b',es,clk,hb',hσ,hO,hr⟩:=g.hp.ok _ _ _ hc hxx
     rw [hb]at hb';cases hb'
     obtain⟨hit,miss⟩:=h
     rcases lookup_run (enc:=encI) hu hk hz (fun a b=>same_int a b kd) (fun em v w=>checkKey_int hk em v w) hO hr n ok with⟨v,u,h1,h2,h3⟩|⟨h1,h2⟩
     ·have:=hit v h1
      cases ok with
      |true=>exact⟨_,_,h3,by simp only [rel];exact⟨[u, .bool true],rfl,relL_cons.2 ⟨up h2,relL_cons.2 ⟨by simp [rel],by simp [relL]⟩⟩⟩,this⟩
      |false=>exact⟨_,_,h3,up h2,this⟩
     ·have:=forceV_ok (miss h1)
      cases ok with
      |true=>exact⟨_,_,h2,by simp only [rel];exact⟨[de.zero, .bool false],rfl,relL_cons.2 ⟨rel_ofV _ _ _,relL_cons.2 ⟨by simp [rel],by simp [relL]⟩⟩⟩,this⟩
      |false=>exact⟨_,_,h2,rel_ofV _ _ _,this⟩
    ·exact h.elim
   ·rename_i l hc
    split at h
    ·rename_i n hdk2
     rw [hdk2]at hk
     simp only [rel]at hi;subst hi
     obtain⟨b',es,clk,hb',hσ,hO,hr⟩:=g.hp.ok _ _ _ hc hxx
     rw [hb]at hb';cases hb'
     obtain⟨hit,miss⟩:=h
     rcases lookup_run (enc:=encS) hu hk hz same_str (fun em v w=>checkKey_str hk em v w) hO hr n ok with⟨v,u,h1,h2,h3⟩|⟨h1,h2⟩
     ·have:=hit v h1
      cases ok with
      |true=>exact⟨_,_,h3,by simp only [rel];exact⟨[u, .bool true],rfl,relL_cons.2 ⟨up h2,relL_cons.2 ⟨by simp [rel],by simp [relL]⟩⟩⟩,this⟩
      |false=>exact⟨_,_,h3,up h2,this⟩
     ·have:=forceV_ok (miss h1)
      cases ok with
      |true=>exact⟨_,_,h2,by simp only [rel];exact⟨[de.zero, .bool false],rfl,relL_cons.2 ⟨rel_ofV _ _ _,relL_cons.2 ⟨by simp [rel],by simp [relL]⟩⟩⟩,this⟩
      |false=>exact⟨_,_,h2,rel_ofV _ _ _,this⟩
    ·exact h.elim
   ·exact h.elim
  ·exact h.elim
 ·exact h.elim
inductive PutOb {α:Type} [BEq α] (l:List (α×SV)) (n:α) (v:SV) (K:List (α×SV)→Prop):Prop
 |mk (hit:l.lookup n≠none→K (mset l n v)) (miss:l.lookup n=none→K (l++[(n,v)])):PutOb l n v K
def putK (E:Env) (S:SS) (t:Nat) (x i v:SV) (k:List Chunk→Prop):Prop:=
 need (look E.tys t) fun d=>match d.desc with
  |.map kt _=>need (look E.tys kt) fun dk=>match closed v with
   |true=>match x with
    |.mp h=>match E.free h with
     |true=>match S.own[h]? with
      |some (.mapI l)=>match dk.desc,i with
       |.int _, .num .i64 n=>PutOb l n v fun l=>forceL (S.own.set h (.mapI l)) k
       |_,_=>False
      |some (.mapS l)=>match dk.desc,i with
       |.string, .str n=>PutOb l n v fun l=>forceL (S.own.set h (.mapS l)) k
       |_,_=>False
      |_=>False
     |false=>False
    |_=>False
   |false=>False
  |_=>False
theorem relM_append {α:Type} {enc:α→Value} {σ:PH}:∀{l l':List (α×SV)} {es es':List MapEntry},relM enc σ l es→relM enc σ l' es'→relM enc σ (l++l') (es++es')
 |[],_,es,_,h,h'=>by simp only [relM]at h;subst h;exact h'
 |(k,v)::l,_,es,_,h,h'=>by
  obtain⟨e,es0,rfl,h1,h2,h3⟩:=h
  exact⟨e,_,rfl,h1,h2,relM_append h3 h'⟩
theorem put_run {P:Program} {t kt et:TypeId} {D:TypeDesc} (hu:P.underlying t=some (.map kt et)) (hk:P.underlying kt=some D) {α:Type} [BEq α] [LawfulBEq α] {enc:α→Value} {σ:PH} (hbits:∀n,Instr.sameBits 10000 (enc n) (enc n)=true)
  (hsame:∀a b,Instr.sameNow D (enc a) (enc b)=some (a==b)) (hchk:∀em v w,(Instr.checkKey em 10000 kt v).run P w= .ok () w) {w:World} {b:Nat} {es:Array MapEntry} {clk:Nat} (hb:w.heap[b]? =some (.map es clk)) {l:List (α×SV)} (hr:relM enc σ l es.toList) (n:α) {v:SV} {u:Value} (hv:rel σ [] v u):
  (l.lookup n≠none∧∃es' clk',(Instr.mapUpdate t (.map (some b)) (enc n) u).run P w= .ok () (put w b (.map es' clk'))∧relM enc σ (mset l n v) es'.toList)∨
  (l.lookup n=none∧∃es' clk',(Instr.mapUpdate t (.map (some b)) (enc n) u).run P w= .ok () (put w b (.map es' clk'))∧relM enc σ (l++[(n,v)]) es'.toList):=by
 have hset:∀o,(setObj b o).run P w= .ok () (put w b o):=by
  intro o;simp only [setObj,Sem.run,put,hb]
 rcases findNow_ok hsame n l es.toList 0 hr with⟨h1,h2⟩|⟨v',i,e,h1,h2,h3,h4,h5,h6⟩
 ·right
  refine⟨h1,es.push ⟨enc n,u,clk⟩,clk+1,?_,?_⟩
  ·simp only [Instr.mapUpdate,Sem.run_bind,run_underlying hu,Result.andThen_ok,getObj,Sem.run,hb,hchk,Instr.findKey,run_underlying hk,h2,Sem.run_pure,hset]
  ·rw [Array.toList_push]
   exact relM_append hr ⟨_,_,rfl,rfl,hv,rfl⟩
 ·left
  refine⟨by rw [h1];simp,es.set! i ⟨enc n,u,e.born⟩,clk,?_,?_⟩
  ·have hi:es[i]? =some e:=by simpa using h3
   have hm:(es.modify i fun e=>{e with key:=enc n,val:=u})=es.set! i ⟨enc n,u,e.born⟩:=by
    apply Array.ext_getElem?
    intro j
    rw [Array.getElem?_modify,Array.set!_eq_setIfInBounds,Array.getElem?_setIfInBounds]
    have hlt:=(Array.getElem?_eq_some_iff.1 hi).1
    by_cases hj:i=j
    ·subst hj;have he:=(Array.getElem?_eq_some_iff.1 hi).2;simp [hlt,he]
    ·simp [hj]
   have hks:(Instr.keyThatStays (((es[i]?).map (·.key)).getD (enc n)) (enc n)).run P w= .ok (enc n) w:=by
    simp only [hi,Option.map_some,Option.getD_some,h4,Instr.keyThatStays,hbits,if_true,Sem.run_pure]
   simp only [Instr.mapUpdate,Sem.run_bind,run_underlying hu,Result.andThen_ok,getObj,Sem.run,hb,hchk,Instr.findKey,run_underlying hk,h2,Sem.run_pure,Nat.zero_add,hks,hm,hset]
  ·have:=h6 v ⟨enc n,u,e.born⟩ rfl hv
   simpa [Array.set!_eq_setIfInBounds]using this
theorem bits_int (n:Int):Instr.sameBits 10000 (encI n) (encI n)=true:=by
 have:∀m,Instr.sameBits m (encI n) (encI n)=true:=by intro m;cases m<;>simp [Instr.sameBits]
 exact this _
theorem bits_str (n:ByteArray):Instr.sameBits 10000 (encS n) (encS n)=true:=by
 have:∀m,Instr.sameBits m (encS n) (encS n)=true:=by intro m;cases m<;>simp [Instr.sameBits]
 exact this _
theorem putK_ok {E:Env} (hE:EnvOK E) {w0 σ0 β0 nt σ β S a w} (g:GG w0 σ0 β0 nt σ β S a w) (hfx:E.free=nt.free) {t:Nat} {sx si sv:SV} {vx vi vv:Value} {k:List Chunk→Prop} (h:putK E S t sx si sv k) (hx:rel σ β sx vx) (hi:rel σ β si vi) (hv:rel σ β sv vv):
  ∃w' own',(Instr.mapUpdate t vx vi vv).run E.P w= .ok () w'∧GG w0 σ0 β0 nt σ β ⟨S.tm,own'⟩ a w'∧k own':=by
 obtain⟨d,hd,h1⟩:=need_some h
 clear h
 have hu:=(look_ok hE hd).2
 split at h1
 ·rename_i kt et hdesc
  rw [hdesc]at hu
  obtain⟨dk,hdk,h2⟩:=need_some h1
  clear h1
  have hk:=(look_ok hE hdk).2
  split at h2
  ·rename_i hcl
   have hv:=rel_closed _ _ hcl hv
   split at h2
   ·rename_i hh
    split at h2
    ·rename_i hfree
     rw [hfx]at hfree
     simp only [rel]at hx
     obtain⟨x,b,hxx,hb,rfl⟩:=hx
     split at h2
     ·rename_i l hc
      split at h2
      ·rename_i kd n hdk2
       rw [hdk2]at hk
       simp only [rel]at hi;subst hi
       obtain⟨b',es,clk,hb',hσ,hO,hr⟩:=g.hp.ok _ _ _ hc hxx
       rw [hb]at hb';cases hb'
       obtain⟨hit,miss⟩:=h2
       rcases put_run (enc:=encI) hu hk bits_int (fun a b=>same_int a b kd) (fun em v w=>checkKey_int hk em v w) hO hr n hv with⟨h1,es',clk',h3,h4⟩|⟨h1,es',clk',h3,h4⟩
       ·have:=hit h1
        rw [forceL_eq]at this
        exact⟨_,S.own.set hh (.mapI (mset l n sv)),h3,⟨g.tm,g.sz,g.df,g.hp.write hxx (HB.blk_mem hb) hc rfl ⟨b,es',clk',hb,hσ,put_get_same (lt_of_get hO),h4⟩,g.fr.write hxx (HB.blk_mem hb),g.pn.put (g.pn.fr _ x b hxx (.inl hfree) (HB.blk_mem hb))⟩,this⟩
       ·have:=miss h1
        rw [forceL_eq]at this
        exact⟨_,S.own.set hh (.mapI (l++[(n,sv)])),h3,⟨g.tm,g.sz,g.df,g.hp.write hxx (HB.blk_mem hb) hc rfl ⟨b,es',clk',hb,hσ,put_get_same (lt_of_get hO),h4⟩,g.fr.write hxx (HB.blk_mem hb),g.pn.put (g.pn.fr _ x b hxx (.inl hfree) (HB.blk_mem hb))⟩,this⟩
      ·exact h2.elim
     ·rename_i l hc
      split at h2
      ·rename_i n hdk2
       rw [hdk2]at hk
       simp only [rel]at hi;subst hi
       obtain⟨b',es,clk,hb',hσ,hO,hr⟩:=g.hp.ok _ _ _ hc hxx
       rw [hb]at hb';cases hb'
       obtain⟨hit,miss⟩:=h2
       rcases put_run (enc:=encS) hu hk bits_str same_str (fun em v w=>checkKey_str hk em v w) hO hr n hv with⟨h1,es',clk',h3,h4⟩|⟨h1,es',clk',h3,h4⟩
       ·have:=hit h1
        rw [forceL_eq]at this
        exact⟨_,S.own.set hh (.mapS (mset l n sv)),h3,⟨g.tm,g.sz,g.df,g.hp.write hxx (HB.blk_mem hb) hc rfl ⟨b,es',clk',hb,hσ,put_get_same (lt_of_get hO),h4⟩,g.fr.write hxx (HB.blk_mem hb),g.pn.put (g.pn.fr _ x b hxx (.inl hfree) (HB.blk_mem hb))⟩,this⟩
       ·have:=miss h1
        rw [forceL_eq]at this
        exact⟨_,S.own.set hh (.mapS (l++[(n,sv)])),h3,⟨g.tm,g.sz,g.df,g.hp.write hxx (HB.blk_mem hb) hc rfl ⟨b,es',clk',hb,hσ,put_get_same (lt_of_get hO),h4⟩,g.fr.write hxx (HB.blk_mem hb),g.pn.put (g.pn.fr _ x b hxx (.inl hfree) (HB.blk_mem hb))⟩,this⟩
      ·exact h2.elim
     ·exact h2.elim
    ·exact h2.elim
   ·exact h2.elim
  ·exact h2.elim
 ·exact h1.elim
def mkMapK (E:Env) (S:SS) (t:Nat) (k:SS→SV→Prop):Prop:=
 need (look E.tys t) fun d=>match d.desc with
  |.map kt _=>need (look E.tys kt) fun dk=>match dk.desc with
   |.int _=>forceN S.own.length fun n=>forceL (S.own++[.mapI []]) fun own=>S.withTm fun tm=>k ⟨tm,own⟩ (.mp n)
   |.string =>forceN S.own.length fun n=>forceL (S.own++[.mapS []]) fun own=>S.withTm fun tm=>k ⟨tm,own⟩ (.mp n)
   |_=>False
  |_=>False
theorem mkMapK_ok {E:Env} {w0 σ0 β0 nt σ β S a w} (g:GG w0 σ0 β0 nt σ β S a w) {t:Nat} {k:SS→SV→Prop} (h:mkMapK E S t k):
  ∃v w' β' S' s,(Instr.makeMap t none).run E.P w= .ok v w'∧GG w0 σ0 β0 nt σ β' S' a w'∧rel σ β' s v∧k S' s:=by
 obtain⟨d,hd,h1⟩:=need_some h
 clear h
 have hrun:(Instr.makeMap t none).run E.P w= .ok (.map (some w.heap.size)) (w.alloc (.map #[] 0)):=by
  simp [Instr.makeMap,newObj,Sem.run,Sem.bind]
 have fin:∀c,(c= .mapI []∨c= .mapS [])→GG w0 σ0 β0 nt σ (β++[hb4 (some w.heap.size) 0 0 0]) ⟨S.tm,S.own++[c]⟩ a (w.alloc (.map #[] 0)):=by
  intro c hc
  refine g.alloc (fun b hb=>by have:=hb4_mem hb;cases this;rfl) ?_
  rcases hc with rfl|rfl
  ·exact⟨w.heap.size, #[],0,rfl,g.hp.no (Nat.le_refl _),heap_alloc_new _ _,rfl⟩
  ·exact⟨w.heap.size, #[],0,rfl,g.hp.no (Nat.le_refl _),heap_alloc_new _ _,rfl⟩
 have hrel:rel σ (β++[hb4 (some w.heap.size) 0 0 0]) (.mp S.own.length) (.map (some w.heap.size)):=by
  simp only [rel];exact⟨hb4 (some w.heap.size) 0 0 0,w.heap.size,by rw [←g.hp.len];simp,rfl,rfl⟩
 split at h1
 ·obtain⟨dk,hdk,h2⟩:=need_some h1
  clear h1
  split at h2
  ·have hk:=forceN_ok h2
   simp only [forceL_eq,SS.withTm_eq]at hk
   exact⟨_,_,_,_,_,hrun,fin _ (.inl rfl),hrel,hk⟩
  ·have hk:=forceN_ok h2
   simp only [forceL_eq,SS.withTm_eq]at hk
   exact⟨_,_,_,_,_,hrun,fin _ (.inr rfl),hrel,hk⟩
  ·exact h2.elim
 ·exact h1.elim
def notIfc:TypeDesc→Bool
 |.interface _=>false
 |_=>true
def isPtr:TypeDesc→Bool
 |.pointer _=>true
 |_=>false
def methodIs (P:Program) (t:Nat) (name:String):Option Nat:=
 match P.info? t with
 |some i=>match P.underlying t with
  |some d=>match isPtr d with
   |false=>match i.methods.find? (·.name ==name)with
    |some m=>match m.path.toList with
     |[]=>match m.func with
      |some (f,false)=>some f
      |_=>none
     |_=>none
    |none=>none
   |true=>none
  |none=>none
 |none=>none
theorem method_run {P:Program} {t f:Nat} {name:String} (h:methodIs P t name=some f) (v:Value) (w:World) (n:Nat):(method (n+1) t v name).run P w= .ok (f,v) w:=by
 unfold methodIs at h
 split at h
 ·rename_i i hi
  have hti:(typeInfo t).run P w= .ok i w:=by simp [typeInfo,hi]
  split at h
  ·rename_i d hu
   have hun:=run_underlying hu w
   split at h
   ·rename_i hip
    split at h
    ·rename_i m hm
     split at h
     ·rename_i hp
      split at h
      ·rename_i f' hf
       cases h
       have hrec:(receiverAt t (.val v) false (if m.path.isEmpty then some ((name.splitOn ".").getLastD name)else none)).run P w= .ok v w:=by
        simp only [receiverAt,Sem.run_bind,hun,Result.andThen_ok]
        cases d<;>first|(simp [isPtr]at hip;done)|simp [Place.get]
       simp only [method,Sem.run_bind,hti,Result.andThen_ok,hm,hp,follow,Sem.run_pure,hf,hrec]
      ·cases h
     ·cases h
    ·cases h
   ·cases h
  ·cases h
 ·cases h
end Go.Sx
end
