/- Lemmas of this seat. Conditions: as stated. -/
import Derived.Calls
import Derived.Tactics
import Derived.OrdersHeld
import Derived.Laws.Append
import Derived.Laws.World
import Derived.Laws.OwnMore
import Derived.Laws.Tables
import Derived.Laws.MakeOwn
import Derived.Laws.AppendOwn
import Derived.Laws.Wrap64
import Derived.Laws.Strings
import Derived.Laws.Bits64
set_option linter.unusedVariables false
set_option linter.unusedSimpArgs false
section
namespace Go.Sx
inductive SV where
 |any
 |num (k:IntKind) (n:Int)
 |bp (p:Prop)
 |bl (b:Bool)
 |str (s:ByteArray)
 |nil
 |psl (esz:Nat) (rows:List (List SV))
 |ful (esz:Nat) (rows:List (List SV))
 |vec (h:Nat)
 |row (h i:Nat)
 |mp (h:Nat)
 |ptr (h off:Nat)
 |elt (h i off:Nat)
 |elt2 (h i j off:Nat)
 |pptr (cells:List SV)
 |agg (l:List SV)
 |tup (l:List SV)
 |fn (f:Nat) (caps:List SV)
 |fnb (f:Nat) (caps:List SV)
 |raw (v:Value)
 |ifc (t:Nat) (s:SV)
 |shut (s:SV)
abbrev PH:=Nat→Option (List Value)
structure HI where
 blk:Option Nat
 esz:Nat
 len:Nat
 cap:Nat
 z:Option Addr
structure HB where
 blk:Option Nat
 esz:Nat
 len:Nat
 cap:Nat
 z:Option Addr
 inn:List HI
abbrev hb4 (blk:Option Nat) (esz len cap:Nat):HB:=⟨blk,esz,len,cap,none,[]⟩
def adr (b:Option Nat) (z:Option Addr):Option Addr:=
 match b with
 |some b=>some ⟨b,0,none⟩
 |none=>z
def HB.slice (x:HB):Value:= .slice (adr x.blk x.z) x.len x.cap
def HI.slice (x:HI):Value:= .slice (adr x.blk x.z) x.len x.cap
def HB.blks (x:HB):List Nat:=x.blk.toList++x.inn.filterMap (·.blk)
theorem HB.blk_mem {x:HB} {b:Nat} (h:x.blk=some b):b∈x.blks:=by simp [HB.blks,h]
theorem HB.inn_mem {x:HB} {i:Nat} {y:HI} {b:Nat} (h:x.inn[i]? =some y) (hb:y.blk=some b):b∈x.blks:=by
 simp only [HB.blks,List.mem_append,List.mem_filterMap];exact .inr ⟨y,List.mem_of_getElem? h,hb⟩
theorem hb4_blks {o:Option Nat} {e l c:Nat}:(hb4 o e l c).blks =o.toList:=by simp [HB.blks]
theorem hb4_mem {o:Option Nat} {e l c b:Nat} (h:b∈(hb4 o e l c).blks):o=some b:=by rw [hb4_blks]at h;simpa using h
def inB (β:List HB) (b:Nat):Prop:=∃(h:Nat) (x:HB),β[h]? =some x∧b∈x.blks
def scalar:Value→Bool
 |.agg _| .tuple _=>false
 |_=>true
def At (σ:PH) (b off:Nat) (vs:List Value):Prop:=(∀v∈vs,scalar v=true)∧∃pre post,σ b=some (pre++vs++post)∧pre.length=off
mutual
def rel (σ:PH) (β:List HB):SV→Value→Prop
 |.any,_=>True
 |.num k n,v=>v= .int k n
 |.bp p,v=>∃b:Bool,v= .bool b∧(b=true↔p)
 |.bl b,v=>v= .bool b
 |.str s,v=>v= .string s
 |.nil,v=>v= .slice none 0 0
 |.psl esz rows,v=>∃a cap vss,v= .slice a rows.length cap∧rows.length≤cap∧relLL σ rows vss∧(∀r∈rows,r.length=esz)∧
   (rows=[]∨∃b off,a=some ⟨b,off,none⟩∧At σ b off vss.flatten)
 |.ful esz rows,v=>∃a vss,v= .slice a rows.length rows.length∧relLL σ rows vss∧(∀r∈rows,r.length=esz)∧
   (rows=[]∨∃b off,a=some ⟨b,off,none⟩∧At σ b off vss.flatten)
 |.vec h,v=>∃x,β[h]? =some x∧v=x.slice
 |.row h i,v=>∃x y,β[h]? =some x∧x.inn[i]? =some y∧v=y.slice
 |.mp h,v=>∃x b,β[h]? =some x∧x.blk=some b∧v= .map (some b)
 |.ptr h off,v=>∃x b,β[h]? =some x∧x.blk=some b∧v= .pointer (some ⟨b,off,none⟩)
 |.elt h i off,v=>∃x b,β[h]? =some x∧x.blk=some b∧v= .pointer (some ⟨b,i*x.esz+off,none⟩)
 |.elt2 h i j off,v=>∃x y b,β[h]? =some x∧x.inn[i]? =some y∧y.blk=some b∧v= .pointer (some ⟨b,j*y.esz+off,none⟩)
 |.pptr cells,v=>∃b off vs,v= .pointer (some ⟨b,off,none⟩)∧relL σ [] cells vs∧At σ b off vs
 |.agg l,v=>∃vs,v= .agg vs.toArray∧relL σ β l vs
 |.tup l,v=>∃vs,v= .tuple vs.toArray∧relL σ β l vs
 |.fn f caps,v=>∃vs,v= .func (.func f) #[] vs.toArray∧relL σ β caps vs
 |.fnb f caps,v=>∃vs,v= .func (.func f) vs.toArray #[]∧relL σ β caps vs
 |.raw x,v=>v=x
 |.ifc t s,v=>∃u,v= .iface t u∧rel σ β s u
 |.shut s,v=>rel σ [] s v
def relL (σ:PH) (β:List HB):List SV→List Value→Prop
 |[],vs=>vs=[]
 |s::ss,vs=>∃v vs',vs=v::vs'∧rel σ β s v∧relL σ β ss vs'
def relLL (σ:PH):List (List SV)→List (List Value)→Prop
 |[],vss=>vss=[]
 |r::rs,vss=>∃vs vss',vss=vs::vss'∧relL σ [] r vs∧relLL σ rs vss'
end
def PH.le (σ σ':PH):Prop:=∀b cs,σ b=some cs→σ' b=some cs
def HB.le (β β':List HB):Prop:=∀(h:Nat) (x:HB),β[h]? =some x→β'[h]? =some x
theorem At.mono {σ σ':PH} (h:PH.le σ σ') {b off vs}:At σ b off vs→At σ' b off vs:=by
 rintro⟨hsc,p,q,e,l⟩;exact⟨hsc,p,q,h _ _ e,l⟩
mutual
theorem rel.mono {σ σ':PH} (hs:PH.le σ σ') {β β':List HB} (hb:HB.le β β'):∀(s:SV) (v:Value),rel σ β s v→rel σ' β' s v
 |.any,_,_=>by simp [rel]
 |.num k n,v,h=>by simpa [rel]using h
 |.bp p,v,h=>by simpa [rel]using h
 |.bl b,v,h=>by simpa [rel]using h
 |.str s,v,h=>by simpa [rel]using h
 |.nil,v,h=>by simpa [rel]using h
 |.psl esz rows,v,h=>by
  simp only [rel]at h⊢
  obtain⟨a,cap,vss,e,hc,hr,hl,hat⟩:=h
  refine⟨a,cap,vss,e,hc,relLL.mono hs rows vss hr,hl,?_⟩
  rcases hat with h|⟨b,off,ha,hat⟩
  ·exact .inl h
  ·exact .inr ⟨b,off,ha,hat.mono hs⟩
 |.ful esz rows,v,h=>by
  simp only [rel]at h⊢
  obtain⟨a,vss,e,hr,hl,hat⟩:=h
  refine⟨a,vss,e,relLL.mono hs rows vss hr,hl,?_⟩
  rcases hat with h|⟨b,off,ha,hat⟩
  ·exact .inl h
  ·exact .inr ⟨b,off,ha,hat.mono hs⟩
 |.vec h,v,hh=>by simp only [rel]at hh⊢;obtain⟨x,hx,e⟩:=hh;exact⟨x,hb _ _ hx,e⟩
 |.row h i,v,hh=>by simp only [rel]at hh⊢;obtain⟨x,y,hx,e⟩:=hh;exact⟨x,y,hb _ _ hx,e⟩
 |.mp h,v,hh=>by simp only [rel]at hh⊢;obtain⟨x,b,hx,e⟩:=hh;exact⟨x,b,hb _ _ hx,e⟩
 |.elt2 h i j o,v,hh=>by simp only [rel]at hh⊢;obtain⟨x,y,b,hx,e⟩:=hh;exact⟨x,y,b,hb _ _ hx,e⟩
 |.ptr h off,v,hh=>by simp only [rel]at hh⊢;obtain⟨x,b,hx,e⟩:=hh;exact⟨x,b,hb _ _ hx,e⟩
 |.elt h i off,v,hh=>by simp only [rel]at hh⊢;obtain⟨x,b,hx,e⟩:=hh;exact⟨x,b,hb _ _ hx,e⟩
 |.pptr cells,v,h=>by
  simp only [rel]at h⊢;obtain⟨b,off,vs,e,hr,hat⟩:=h
  exact⟨b,off,vs,e,relL.mono hs (fun _ _ h=>h) cells vs hr,hat.mono hs⟩
 |.agg l,v,h=>by simp only [rel]at h⊢;obtain⟨vs,e,hr⟩:=h;exact⟨vs,e,relL.mono hs hb l vs hr⟩
 |.tup l,v,h=>by simp only [rel]at h⊢;obtain⟨vs,e,hr⟩:=h;exact⟨vs,e,relL.mono hs hb l vs hr⟩
 |.fn f caps,v,h=>by simp only [rel]at h⊢;obtain⟨vs,e,hr⟩:=h;exact⟨vs,e,relL.mono hs hb caps vs hr⟩
 |.fnb f caps,v,h=>by simp only [rel]at h⊢;obtain⟨vs,e,hr⟩:=h;exact⟨vs,e,relL.mono hs hb caps vs hr⟩
 |.raw x,v,h=>by simpa [rel]using h
 |.ifc t s,v,h=>by simp only [rel]at h⊢;obtain⟨u,e,hr⟩:=h;exact⟨u,e,rel.mono hs hb s u hr⟩
 |.shut s,v,h=>by simp only [rel]at h⊢;exact rel.mono hs (fun _ _ h=>h) s v h
theorem relL.mono {σ σ':PH} (hs:PH.le σ σ') {β β':List HB} (hb:HB.le β β'):∀(l:List SV) (vs:List Value),relL σ β l vs→relL σ' β' l vs
 |[],vs,h=>by simpa [relL]using h
 |s::ss,vs,h=>by
  simp only [relL]at h⊢
  obtain⟨v,vs',e,hr,hl⟩:=h
  exact⟨v,vs',e,rel.mono hs hb s v hr,relL.mono hs hb ss vs' hl⟩
theorem relLL.mono {σ σ':PH} (hs:PH.le σ σ'):∀(l:List (List SV)) (vss:List (List Value)),relLL σ l vss→relLL σ' l vss
 |[],vss,h=>by simpa [relLL]using h
 |r::rs,vss,h=>by
  simp only [relLL]at h⊢
  obtain⟨vs,vss',e,hr,hl⟩:=h
  exact⟨vs,vss',e,relL.mono hs (fun _ _ h=>h) r vs hr,relLL.mono hs rs vss' hl⟩
end
theorem PH.le.refl (σ:PH):PH.le σ σ:=fun _ _ h=>h
theorem PH.le.trans {a b c:PH} (h:PH.le a b) (k:PH.le b c):PH.le a c:=fun _ _ e=>k _ _ (h _ _ e)
theorem HB.le.refl (β:List HB):HB.le β β:=fun _ _ h=>h
theorem HB.le.trans {a b c:List HB} (h:HB.le a b) (k:HB.le b c):HB.le a c:=fun _ _ e=>k _ _ (h _ _ e)
theorem HB.le_append (β l:List HB):HB.le β (β++l):=fun h x e=>by
 have:h<β.length:=by
  rcases Nat.lt_or_ge h β.length with h'|h'
  ·exact h'
  ·rw [List.getElem?_eq_none h']at e;cases e
 rw [List.getElem?_append_left this];exact e
theorem relL_length {σ:PH} {β:List HB}:∀{l:List SV} {vs:List Value},relL σ β l vs→vs.length=l.length
 |[],vs,h=>by simp only [relL]at h;simp [h]
 |s::ss,vs,h=>by simp only [relL]at h;obtain⟨v,vs',rfl,_,hl⟩:=h;simp [relL_length hl]
theorem relL_cons {σ:PH} {β:List HB} {s ss v vs}:relL σ β (s::ss) (v::vs)↔rel σ β s v∧relL σ β ss vs:=by
 simp only [relL];constructor
 ·rintro⟨v',vs',e,h1,h2⟩;cases e;exact⟨h1,h2⟩
 ·rintro⟨h1,h2⟩;exact⟨v,vs,rfl,h1,h2⟩
theorem relL_get {σ:PH} {β:List HB}:∀{l:List SV} {vs:List Value},relL σ β l vs→∀{i:Nat} {s:SV},l[i]? =some s→∃v,vs[i]? =some v∧rel σ β s v
 |[],vs,_,i,s,e=>by simp at e
 |x::ss,vs,h,i,s,e=>by
  simp only [relL]at h;obtain⟨v,vs',rfl,hr,hl⟩:=h
  cases i with
  |zero=>simp at e;subst e;exact⟨v,by simp,hr⟩
  |succ i=>simp at e;obtain⟨u,hu,hr'⟩:=relL_get hl e;exact⟨u,by simpa using hu,hr'⟩
theorem relL_append {σ:PH} {β:List HB}:∀{l l':List SV} {vs vs':List Value},relL σ β l vs→relL σ β l' vs'→relL σ β (l++l') (vs++vs')
 |[],l',vs,vs',h,h'=>by simp only [relL]at h;subst h;simpa using h'
 |x::ss,l',vs,vs',h,h'=>by
  simp only [relL]at h;obtain⟨u,vs1,rfl,hr,hl⟩:=h
  simp only [List.cons_append];exact relL_cons.2 ⟨hr,relL_append hl h'⟩
theorem relL_take {σ:PH} {β:List HB}:∀(n:Nat) {l:List SV} {vs:List Value},relL σ β l vs→relL σ β (l.take n) (vs.take n)
 |0,l,vs,_=>by simp [relL]
 |n+1,[],vs,h=>by simp only [relL]at h;subst h;simp [relL]
 |n+1,x::ss,vs,h=>by
  simp only [relL]at h;obtain⟨u,vs1,rfl,hr,hl⟩:=h
  simp only [List.take_succ_cons];exact relL_cons.2 ⟨hr,relL_take n hl⟩
theorem relL_drop {σ:PH} {β:List HB}:∀(n:Nat) {l:List SV} {vs:List Value},relL σ β l vs→relL σ β (l.drop n) (vs.drop n)
 |0,l,vs,h=>by simpa using h
 |n+1,[],vs,h=>by simp only [relL]at h;subst h;simp [relL]
 |n+1,x::ss,vs,h=>by
  simp only [relL]at h;obtain⟨u,vs1,rfl,hr,hl⟩:=h
  simp only [List.drop_succ_cons];exact relL_drop n hl
theorem relLL_length {σ:PH}:∀{l:List (List SV)} {vss:List (List Value)},relLL σ l vss→vss.length=l.length
 |[],vs,h=>by simp only [relLL]at h;simp [h]
 |s::ss,vs,h=>by simp only [relLL]at h;obtain⟨v,vs',rfl,_,hl⟩:=h;simp [relLL_length hl]
theorem relLL_cons {σ:PH} {s ss v vs}:relLL σ (s::ss) (v::vs)↔relL σ [] s v∧relLL σ ss vs:=by
 simp only [relLL];constructor
 ·rintro⟨v',vs',e,h1,h2⟩;cases e;exact⟨h1,h2⟩
 ·rintro⟨h1,h2⟩;exact⟨v,vs,rfl,h1,h2⟩
theorem relLL_append {σ:PH}:∀{l l':List (List SV)} {vs vs':List (List Value)},relLL σ l vs→relLL σ l' vs'→relLL σ (l++l') (vs++vs')
 |[],l',vs,vs',h,h'=>by simp only [relLL]at h;subst h;simpa using h'
 |x::ss,l',vs,vs',h,h'=>by
  simp only [relLL]at h;obtain⟨u,vs1,rfl,hr,hl⟩:=h
  simp only [List.cons_append];exact relLL_cons.2 ⟨hr,relLL_append hl h'⟩
theorem relLL_take {σ:PH}:∀(n:Nat) {l:List (List SV)} {vs:List (List Value)},relLL σ l vs→relLL σ (l.take n) (vs.take n)
 |0,l,vs,_=>by simp [relLL]
 |n+1,[],vs,h=>by simp only [relLL]at h;subst h;simp [relLL]
 |n+1,x::ss,vs,h=>by
  simp only [relLL]at h;obtain⟨u,vs1,rfl,hr,hl⟩:=h
  simp only [List.take_succ_cons];exact relLL_cons.2 ⟨hr,relLL_take n hl⟩
theorem relLL_drop {σ:PH}:∀(n:Nat) {l:List (List SV)} {vs:List (List Value)},relLL σ l vs→relLL σ (l.drop n) (vs.drop n)
 |0,l,vs,h=>by simpa using h
 |n+1,[],vs,h=>by simp only [relLL]at h;subst h;simp [relLL]
 |n+1,x::ss,vs,h=>by
  simp only [relLL]at h;obtain⟨u,vs1,rfl,hr,hl⟩:=h
  simp only [List.drop_succ_cons];exact relLL_drop n hl
theorem relLL_get {σ:PH}:∀{l:List (List SV)} {vs:List (List Value)},relLL σ l vs→∀{i:Nat} {s:List SV},l[i]? =some s→∃v,vs[i]? =some v∧relL σ [] s v
 |[],vs,_,i,s,e=>by simp at e
 |x::ss,vs,h,i,s,e=>by
  simp only [relLL]at h;obtain⟨v,vs',rfl,hr,hl⟩:=h
  cases i with
  |zero=>simp at e;subst e;exact⟨v,by simp,hr⟩
  |succ i=>simp at e;obtain⟨u,hu,hr'⟩:=relLL_get hl e;exact⟨u,by simpa using hu,hr'⟩
theorem relLL_set {σ:PH}:∀{l:List (List SV)} {vs:List (List Value)},relLL σ l vs→∀{i s v},relL σ [] s v→relLL σ (l.set i s) (vs.set i v)
 |[],vs,h,i,s,v,_=>by simp only [relLL]at h;subst h;simp [relLL]
 |x::ss,vs,h,i,s,v,hs=>by
  simp only [relLL]at h;obtain⟨u,vs',rfl,hr,hl⟩:=h
  cases i with
  |zero=>simp only [List.set_cons_zero];exact relLL_cons.2 ⟨hs,hl⟩
  |succ i=>simp only [List.set_cons_succ];exact relLL_cons.2 ⟨hr,relLL_set hl hs⟩
theorem flat_length {esz:Nat}:∀{vss:List (List Value)},(∀r∈vss,r.length=esz)→vss.flatten.length=vss.length*esz
 |[],_=>by simp
 |v::vs,h=>by
  simp only [List.flatten_cons,List.length_append,List.length_cons]
  rw [flat_length (fun r hr=>h r (by simp [hr])),h v (by simp),Nat.add_mul,Nat.one_mul,Nat.add_comm]
theorem relLL_rows {σ:PH} {esz:Nat}:∀{l:List (List SV)} {vss:List (List Value)},relLL σ l vss→(∀r∈l,r.length=esz)→∀r∈vss,r.length=esz
 |[],vss,h,_=>by simp only [relLL]at h;simp [h]
 |r::rs,vss,h,hl=>by
  simp only [relLL]at h;obtain⟨v,vs',rfl,hr,ht⟩:=h
  intro x hx
  rcases List.mem_cons.1 hx with rfl|hx
  ·rw [relL_length hr];exact hl _ (by simp)
  ·exact relLL_rows ht (fun r hr=>hl r (by simp [hr])) x hx
theorem flat_split {esz:Nat} {vss:List (List Value)} (h:∀r∈vss,r.length=esz) {i:Nat} {vs:List Value} (hi:vss[i]? =some vs):
  vss.flatten=(vss.take i).flatten ++vs++(vss.drop (i+1)).flatten ∧(vss.take i).flatten.length =i*esz:=by
 obtain⟨hlt,rfl⟩:=List.getElem?_eq_some_iff.1 hi
 constructor
 ·have e:vss=vss.take i++vss[i]::vss.drop (i+1):=by rw [←List.drop_eq_getElem_cons hlt,List.take_append_drop]
  have:=congrArg List.flatten e
  rw [List.flatten_append,List.flatten_cons]at this
  rw [List.append_assoc];exact this
 ·rw [flat_length (esz:=esz) (fun r hr=>h r (List.mem_of_mem_take hr)),List.length_take,Nat.min_eq_left (by omega)]
end Go.Sx
end
section
namespace Go.Sx
inductive Chunk where
 |box (cells:List SV)
 |vec (esz:Nat) (rows:List (List SV))
 |mat (esz:Nat) (ms:List (List (List SV)))
 |hol (esz:Nat) (ms:List (List (List SV))) (i:Nat)
 |opn (esz:Nat) (rows:List (List SV)) (i:Nat) (cells:List SV)
 |mapI (l:List (Int×SV))
 |mapS (l:List (ByteArray×SV))
 |fro (esz:Nat) (rows:List (List SV))
 |fru (esz:Nat) (rows:List (List SV))
 |frb (cells:List SV)
 |dead
def live:Chunk→Bool
 |.box _| .vec _ _| .mat _ _| .hol _ _ _| .mapI _| .mapS _| .opn _ _ _ _=>true
 |_=>false
def Blk (w:World) (b:Nat) (cs:List Value):Prop:=∃T fz,w.heap[b]? =some (.cells cs.toArray T fz)
def OBlk (w:World) (b:Nat) (cs:List Value):Prop:=(∀v∈cs,scalar v=true)∧∃T,w.heap[b]? =some (.cells cs.toArray T (0,0))
theorem OBlk.blk {w b cs} (h:OBlk w b cs):Blk w b cs:=by obtain⟨hs,T,h⟩:=h;exact⟨T,_,h⟩
theorem lt_of_get {w:World} {b:Nat} {o:Obj} (h:w.heap[b]? =some o):b<w.heap.size:=by
 rcases Nat.lt_or_ge b w.heap.size with h'|h'
 ·exact h'
 ·rw [Array.getElem?_eq_none h']at h;cases h
theorem Blk.lt {w:World} {b cs} (h:Blk w b cs):b<w.heap.size:=by
 obtain⟨T,fz,h⟩:=h;exact lt_of_get h
def VecOK (w : World) (σ : PH) (esz : Nat) (rows : List (List SV)) (blk : Option Nat) (len cap : Nat) : Prop :=
  len = rows.length ∧ (∀ r ∈ rows, r.length = esz) ∧
    ((blk = none ∧ rows = [] ∧ cap = 0) ∨
     ∃ b vss rest, blk = some b ∧ σ b = none ∧ OBlk w b (vss.flatten ++ rest) ∧ relLL σ rows vss ∧ rows.length ≤ cap ∧
       vss.flatten.length + rest.length = cap * esz)
def relM {α:Type} (enc:α→Value) (σ:PH):List (α×SV)→List MapEntry→Prop
 |[],es=>es=[]
 |(k,v)::r,es=>∃e es',es=e::es'∧e.key=enc k∧rel σ [] v e.val∧relM enc σ r es'
theorem relM.mono {α:Type} {enc:α→Value} {σ σ':PH} (hs:PH.le σ σ'):∀{l:List (α×SV)} {es:List MapEntry},relM enc σ l es→relM enc σ' l es
 |[],_,h=>h
 |(k,v)::r,es,h=>by
  obtain⟨e,es',h0,h1,h2,h3⟩:=h
  exact⟨e,es',h0,h1,rel.mono hs (HB.le.refl _) _ _ h2,relM.mono hs h3⟩
abbrev encI (n:Int):Value:= .int .i64 n
abbrev encS (s:ByteArray):Value:= .string s
def chunkOK (w : World) (σ : PH) (β : List HB) : Chunk → HB → Prop
  | .box cells, x => ∃ b vs, x.blk = some b ∧ σ b = none ∧ OBlk w b vs ∧ relL σ β cells vs
  | .vec esz rows, x => x.esz = esz ∧ x.len = rows.length ∧ (∀ r ∈ rows, r.length = esz) ∧
      ((x.blk = none ∧ rows = [] ∧ x.cap = 0) ∨
       ∃ b vss rest, x.blk = some b ∧ σ b = none ∧ OBlk w b (vss.flatten ++ rest) ∧ relLL σ rows vss ∧ rows.length ≤ x.cap ∧
         vss.flatten.length + rest.length = x.cap * esz)
  | .mat esz ms, x => x.esz = 1 ∧ x.len = ms.length ∧ x.blks.Nodup ∧ x.inn.length = ms.length ∧
      (∀ (i : Nat) (y : HI) (m : List (List SV)), x.inn[i]? = some y → ms[i]? = some m → y.esz = esz ∧ VecOK w σ esz m y.blk y.len y.cap) ∧
      ((x.blk = none ∧ ms = [] ∧ x.cap = 0) ∨ ∃ b rest, x.blk = some b ∧ σ b = none ∧ OBlk w b (x.inn.map HI.slice ++ rest) ∧ ms.length ≤ x.cap ∧ x.cap ≤ ms.length + rest.length)
  | .hol esz ms q, x => x.esz = 1 ∧ x.len = ms.length ∧ x.blks.Nodup ∧ x.inn.length = ms.length ∧ q < ms.length ∧
      (∀ (i : Nat) (y : HI) (m : List (List SV)), i ≠ q → x.inn[i]? = some y → ms[i]? = some m → y.esz = esz ∧ VecOK w σ esz m y.blk y.len y.cap) ∧
      ∃ b rest, x.blk = some b ∧ σ b = none ∧ OBlk w b (x.inn.map HI.slice ++ rest) ∧ ms.length ≤ x.cap ∧ x.cap ≤ ms.length + rest.length
  | .opn esz rows i cells, x => x.esz = esz ∧ x.len = rows.length ∧ (∀ r ∈ rows, r.length = esz) ∧ i < rows.length ∧ cells.length = esz ∧
      ∃ b vss vs rest, x.blk = some b ∧ σ b = none ∧ OBlk w b ((vss.set i vs).flatten ++ rest) ∧ relLL σ rows vss ∧ relL σ β cells vs ∧ rows.length ≤ x.cap ∧
         vss.flatten.length + rest.length = x.cap * esz
  | .mapI l, x => ∃ b es clk, x.blk = some b ∧ σ b = none ∧ w.heap[b]? = some (.map es clk) ∧ relM encI σ l es.toList
  | .mapS l, x => ∃ b es clk, x.blk = some b ∧ σ b = none ∧ w.heap[b]? = some (.map es clk) ∧ relM encS σ l es.toList
  | .fro esz rows, x => x.len = rows.length ∧ rel σ [] (.psl esz rows) x.slice
  | .fru esz rows, x => x.len = rows.length ∧ rel σ [] (.ful esz rows) x.slice
  | .frb cells, x => ∃ b vs, x.blk = some b ∧ relL σ [] cells vs ∧ At σ b 0 vs
  | .dead, _ => True
structure HeapOK (w:World) (σ:PH) (β:List HB) (own:List Chunk):Prop where
 ph:∀b cs,σ b=some cs→Blk w b cs
 len:β.length=own.length
 ok:∀(h:Nat) (c:Chunk) (x:HB),own[h]? =some c→β[h]? =some x→chunkOK w σ β c x
 lt:∀(h:Nat) (x:HB) (b:Nat),β[h]? =some x→b∈x.blks→b<w.heap.size
 apart:∀(h h':Nat) (c c':Chunk) (x x':HB) (b:Nat),own[h]? =some c→own[h']? =some c'→live c=true→live c'=true→β[h]? =some x→β[h']? =some x'→b∈x.blks→b∈x'.blks→h=h'
 psn:∀(h:Nat) (c:Chunk) (x:HB) (b:Nat),own[h]? =some c→live c=true→β[h]? =some x→b∈x.blks→σ b=none
structure Fr (w0:World) (σ0:PH) (β0:List HB) (w:World) (σ:PH) (β:List HB):Prop where
 os:w.os=w0.os
 tape:w.tape=w0.tape
 output:w.output=w0.output∧w0.drawn≤w.drawn
 size:w0.heap.size≤w.heap.size
 block:∀b,b<w0.heap.size→¬inB β0 b→w.heap[b]? =w0.heap[b]?
 le:PH.le σ0 σ
 new:∀b cs,σ b=some cs→b<w0.heap.size→σ0 b=some cs∨inB β0 b
 pre:HB.le β0 β
 fresh:∀(h:Nat) (x:HB) (b:Nat),β[h]? =some x→b∈x.blks→w0.heap.size≤b∨inB β0 b
theorem Fr.refl (w:World) (σ:PH) (β:List HB):Fr w σ β w σ β:=
 ⟨rfl,rfl,⟨rfl,Nat.le_refl _⟩,Nat.le_refl _,fun _ _ _=>rfl,PH.le.refl _,fun _ _ h _=> .inl h,HB.le.refl _,fun h x b e hb=> .inr ⟨h,x,e,hb⟩⟩
theorem cell_seg {w:World} {b off:Nat} {pre vs post:List Value} (h:Blk w b (pre++vs++post)) (hp:pre.length=off) (j:Nat) (v:Value)
  (hj:vs[j]? =some v):w.cell? ((⟨b,off,none⟩:Addr).add j)=some v:=by
 obtain⟨T,fz,h⟩:=h
 have hlt:j<vs.length:=by
  rcases Nat.lt_or_ge j vs.length with h'|h'
  ·exact h'
  ·rw [List.getElem?_eq_none h']at hj;cases hj
 have key:((pre++vs++post).toArray)[off+j]? =some v:=by
  simp only [List.getElem?_toArray,List.append_assoc]
  rw [List.getElem?_append_right (by omega),show off+j-pre.length=j by omega,List.getElem?_append_left hlt,hj]
 unfold Addr.add
 split
 ·rename_i h0;subst h0
  simp only [World.cell?,h,Option.isSome_none]
  simpa using key
 ·simp only [World.cell?,h,Option.isSome_none]
  simpa using key
theorem run_loadSeg {P:Program} {w:World} {b off n:Nat} {pre vs post:List Value} (h:Blk w b (pre++vs++post)) (hp:pre.length=off) (hn:vs.length=n):
  (loadCells ⟨b,off,none⟩ n).run P w= .ok vs.toArray w:=by
 subst hn
 exact run_loadCells_list w _ vs (fun j v hj=>cell_seg h hp j v hj)
def put (w:World) (b:Nat) (o:Obj):World:={w with heap:=w.heap.setIfInBounds b o}
@[simp] theorem put_size (w : World) (b o) : (put w b o).heap.size = w.heap.size := by simp [put]
theorem put_get_same {w:World} {b:Nat} {o:Obj} (h:b<w.heap.size):(put w b o).heap[b]? =some o:=by simp [put,h]
theorem put_get_ne {w:World} {b k:Nat} {o:Obj} (h:k≠b):(put w b o).heap[k]? =w.heap[k]? :=by
 simp only [put];rw [Array.getElem?_setIfInBounds_ne (Ne.symm h)]
theorem run_store1 {P:Program} {w:World} {b off j:Nat} {T:TypeId} {pre post:List Value} {old v:Value} (hb:w.heap[b]? =some (.cells (pre++old::post).toArray T (0,0)))
  (hp:pre.length=off+j) (hv:scalar v=true):
  (store ((⟨b,off,none⟩:Addr).add j) v).run P w= .ok () (put w b (.cells (pre++v::post).toArray T (0,0))):=by
 have hblt:b<w.heap.size:=lt_of_get hb
 have haddr:((⟨b,off,none⟩:Addr).add j)=⟨b,off+j,none⟩:=by
  unfold Addr.add;split
  ·rename_i h;subst h;rfl
  ·rfl
 rw [haddr]
 have hc:w.cell? ⟨b,off+j,none⟩=some old:=by
  simp only [World.cell?,hb,Option.isSome_none,Bool.false_eq_true,if_false,List.getElem?_toArray]
  rw [←hp];simp
 have hf:w.frozen? ⟨b,off+j,none⟩=false:=by
  simp only [World.frozen?,hb];simp
 have hset:w.setCell ⟨b,off+j,none⟩ v=put w b (.cells (pre++v::post).toArray T (0,0)):=by
  simp only [World.setCell,put]
  congr 1
  apply Array.ext_getElem?
  intro i
  rw [Array.getElem?_modify,Array.getElem?_setIfInBounds]
  by_cases hi:b=i
  ·subst hi
   rw [if_pos rfl,if_pos rfl,if_pos hblt,hb]
   simp only [Option.map_some,Option.isSome_none]
   congr 2
   simp [←hp]
  ·rw [if_neg hi,if_neg hi]
 unfold store
 cases v<;>first|(simp [scalar]at hv;done)|(simp only [Sem.run,hc,hf,hset];rfl)
theorem put_put (w:World) (b:Nat) (o o':Obj):put (put w b o) b o'=put w b o':=by simp [put]
theorem run_storeSeg {P:Program} {b off:Nat} {T:TypeId} {post:List Value}:∀(vs old pre:List Value) (w:World) (j:Nat),
  w.heap[b]? =some (.cells (pre++old++post).toArray T (0,0))→pre.length=off+j→old.length=vs.length→(∀v∈vs,scalar v=true)→
  (storeCells ⟨b,off,none⟩ vs j).run P w= .ok () (put w b (.cells (pre++vs++post).toArray T (0,0)))
 |[],old,pre,w,j,hb,hp,hl,_=>by
  have:old=[]:=List.length_eq_zero_iff.1 (by simpa using hl)
  subst this
  simp only [storeCells,Sem.run_pure]
  congr 1
  simp only [put]
  have hblt:b<w.heap.size:=lt_of_get hb
  have:w.heap.setIfInBounds b (.cells (pre++[]++post).toArray T (0,0))=w.heap:=by
   apply Array.ext_getElem?
   intro i
   rw [Array.getElem?_setIfInBounds]
   by_cases hi:b=i
   ·subst hi;rw [if_pos rfl,if_pos hblt,hb]
   ·rw [if_neg hi]
  rw [this]
 |v::vs,old,pre,w,j,hb,hp,hl,hs=>by
  cases old with
  |nil=>simp at hl
  |cons o old=>
   have hb':w.heap[b]? =some (.cells (pre++o::(old++post)).toArray T (0,0)):=by simpa using hb
   have h1:=run_store1 (P:=P) hb' hp (hs v (by simp))
   have hblt:b<w.heap.size:=lt_of_get hb
   have ih:=run_storeSeg (P:=P) (b:=b) (off:=off) (T:=T) (post:=post) vs old (pre++[v]) (put w b (.cells (pre++v::(old++post)).toArray T (0,0))) (j+1)
    (by rw [put_get_same hblt];simp) (by simp;omega) (by simpa using hl) (fun u hu=>hs u (by simp [hu]))
   rw [storeCells]
   simp only [Sem.run_bind,h1,Result.andThen_ok,ih,put_put]
   simp
theorem OBlk.step {w w':World} {b:Nat} {cs:List Value} (h:OBlk w b cs) (hw:w'.heap[b]? =w.heap[b]?):OBlk w' b cs:=by
 obtain⟨hs,T,h⟩:=h;exact⟨hs,T,by rw [hw];exact h⟩
theorem VecOK.step {w w':World} {σ σ':PH} (hs:PH.le σ σ') {esz rows blk len cap} (h:VecOK w σ esz rows blk len cap) (hn:∀b,blk=some b→σ b=none→σ' b=none)
  (hw:∀b,blk=some b→w'.heap[b]? =w.heap[b]?):VecOK w' σ' esz rows blk len cap:=by
 obtain⟨h2,h3,h4⟩:=h
 refine⟨h2,h3,?_⟩
 rcases h4 with h4|⟨b,vss,rest,e,hσ,hO,hr,hc,hl⟩
 ·exact .inl h4
 ·exact .inr ⟨b,vss,rest,e,hn b e hσ,hO.step (hw b e),relLL.mono hs _ _ hr,hc,hl⟩
theorem chunkOK.step {w w':World} {σ σ':PH} {β β':List HB} (hs:PH.le σ σ') (hb:HB.le β β'):
  ∀{c:Chunk} {x:HB},chunkOK w σ β c x→(live c=true→∀b,b∈x.blks→σ b=none→σ' b=none)→(live c=true→∀b,b∈x.blks→w'.heap[b]? =w.heap[b]?)→chunkOK w' σ' β' c x
 |.box cells,x,h,hn,hw=>by
  obtain⟨b,vs,e,hσ,hO,hr⟩:=h
  exact⟨b,vs,e,hn rfl b (HB.blk_mem e) hσ,hO.step (hw rfl b (HB.blk_mem e)),relL.mono hs hb _ _ hr⟩
 |.vec esz rows,x,h,hn,hw=>
  ⟨h.1,VecOK.step hs h.2 (fun b e=>hn rfl b (HB.blk_mem e)) (fun b e=>hw rfl b (HB.blk_mem e))⟩
 |.mat esz ms,x,h,hn,hw=>by
  obtain⟨h1,h2,h3,h4,h5,h6⟩:=h
  refine⟨h1,h2,h3,h4,fun i y m hy hm=>⟨(h5 i y m hy hm).1,(h5 i y m hy hm).2.step hs (fun b e=>hn rfl b (HB.inn_mem hy e)) (fun b e=>hw rfl b (HB.inn_mem hy e))⟩,?_⟩
  rcases h6 with h6|⟨b,rest,e,hσ,hO,hc,hl⟩
  ·exact .inl h6
  ·exact .inr ⟨b,rest,e,hn rfl b (HB.blk_mem e) hσ,hO.step (hw rfl b (HB.blk_mem e)),hc,hl⟩
 |.hol esz ms q,x,h,hn,hw=>by
  obtain⟨h1,h2,h3,h4,hq,h5,b,rest,e,hσ,hO,hc,hl⟩:=h
  exact⟨h1,h2,h3,h4,hq,fun i y m hi hy hm=>⟨(h5 i y m hi hy hm).1,(h5 i y m hi hy hm).2.step hs (fun b e=>hn rfl b (HB.inn_mem hy e)) (fun b e=>hw rfl b (HB.inn_mem hy e))⟩,b,rest,e,hn rfl b (HB.blk_mem e) hσ,hO.step (hw rfl b (HB.blk_mem e)),hc,hl⟩
 |.opn esz rows i cells,x,h,hn,hw=>by
  obtain⟨h1,h2,h3,h4,h5,b,vss,vs,rest,e,hσ,hO,hr,hc,hcap,hl⟩:=h
  exact⟨h1,h2,h3,h4,h5,b,vss,vs,rest,e,hn rfl b (HB.blk_mem e) hσ,hO.step (hw rfl b (HB.blk_mem e)),relLL.mono hs _ _ hr,relL.mono hs hb _ _ hc,hcap,hl⟩
 |.mapI l,x,h,hn,hw=>by
  obtain⟨b,es,clk,e,hσ,hO,hr⟩:=h
  exact⟨b,es,clk,e,hn rfl b (HB.blk_mem e) hσ,by rw [hw rfl b (HB.blk_mem e)];exact hO,hr.mono hs⟩
 |.mapS l,x,h,hn,hw=>by
  obtain⟨b,es,clk,e,hσ,hO,hr⟩:=h
  exact⟨b,es,clk,e,hn rfl b (HB.blk_mem e) hσ,by rw [hw rfl b (HB.blk_mem e)];exact hO,hr.mono hs⟩
 |.fro esz rows,x,h,_,_=>⟨h.1,rel.mono hs (HB.le.refl _) _ _ h.2⟩
 |.fru esz rows,x,h,_,_=>⟨h.1,rel.mono hs (HB.le.refl _) _ _ h.2⟩
 |.frb cells,x,h,_,_=>by
  obtain⟨b,vs,e,hr,hat⟩:=h
  exact⟨b,vs,e,relL.mono hs (HB.le.refl _) _ _ hr,hat.mono hs⟩
 |.dead,_,_,_,_=>trivial
theorem heap_alloc_lt (w:World) (o:Obj) {b:Nat} (h:b<w.heap.size):(w.alloc o).heap[b]? =w.heap[b]? :=by
 show(w.heap.push o)[b]? =_
 rw [Array.getElem?_push,if_neg (by omega)]
theorem heap_alloc_new (w:World) (o:Obj):(w.alloc o).heap[w.heap.size]? =some o:=by
 show(w.heap.push o)[w.heap.size]? =_
 rw [Array.getElem?_push,if_pos rfl]
theorem HeapOK.drew {w σ β own} (H:HeapOK w σ β own):HeapOK w.drew σ β own:=
 ⟨H.ph,H.len,H.ok,H.lt,H.apart,H.psn⟩
theorem Fr.drew {w0 σ0 β0 w σ β} (F:Fr w0 σ0 β0 w σ β):Fr w0 σ0 β0 w.drew σ β:=
 ⟨F.os,F.tape,⟨F.output.1,Nat.le_succ_of_le F.output.2⟩,F.size,F.block,F.le,F.new,F.pre,F.fresh⟩
theorem getElem?_snoc {α:Type} {l:List α} {a:α} {i:Nat} {y:α} (h:(l++[a])[i]? =some y):(i<l.length∧l[i]? =some y)∨(i=l.length∧y=a):=by
 rcases Nat.lt_trichotomy i l.length with h1|h1|h1
 ·exact .inl ⟨h1,by rwa [List.getElem?_append_left h1]at h⟩
 ·subst h1;simp at h;exact .inr ⟨rfl,h.symm⟩
 ·rw [List.getElem?_eq_none (by simp;omega)]at h;cases h
theorem HeapOK.alloc {w σ β own} (H:HeapOK w σ β own) (o:Obj):HeapOK (w.alloc o) σ β own where
 ph b cs h:=by
  have:=(H.ph b cs h);have hl:=this.lt
  obtain⟨T,fz,e⟩:=this
  exact⟨T,fz,by rw [heap_alloc_lt w o hl];exact e⟩
 len:=H.len
 ok h c x hc hx:=chunkOK.step (PH.le.refl _) (HB.le.refl _) (H.ok h c x hc hx) (fun _ _ _ h=>h) (fun _ b hb=>heap_alloc_lt w o (H.lt h x b hx hb))
 lt h x b hx hb:=by have:=H.lt h x b hx hb;simp;omega
 apart:=H.apart
 psn:=H.psn
theorem Fr.alloc {w0 σ0 β0 w σ β} (F:Fr w0 σ0 β0 w σ β) (o:Obj):Fr w0 σ0 β0 (w.alloc o) σ β:=
 ⟨F.os,F.tape,F.output,by have:=F.size;simp;omega,fun b hb hn=>by
  rw [heap_alloc_lt w o (by have:=F.size;omega)];exact F.block b hb hn,F.le,F.new,F.pre,F.fresh⟩
theorem HeapOK.push {w σ β own} (H:HeapOK w σ β own) {c:Chunk} {x:HB} (hc:chunkOK w σ (β++[x]) c x)
  (hlt:∀b,b∈x.blks→b<w.heap.size) (hnew:∀(h:Nat) (y:HB) (b:Nat),β[h]? =some y→b∈y.blks→b∉x.blks) (hσ:∀b,b∈x.blks→σ b=none):
  HeapOK w σ (β++[x]) (own++[c]) where
 ph:=H.ph
 len:=by simp [H.len]
 ok h c' y hc' hy:=by
  rcases getElem?_snoc hc' with⟨h1,h2⟩|⟨h1,rfl⟩
  ·rcases getElem?_snoc hy with⟨h3,h4⟩|⟨h3,rfl⟩
   ·exact chunkOK.step (PH.le.refl _) (HB.le_append _ _) (H.ok h c' y h2 h4) (fun _ _ _ h=>h) (fun _ _ _=>rfl)
   ·have:=H.len;omega
  ·rcases getElem?_snoc hy with⟨h3,h4⟩|⟨h3,rfl⟩
   ·have:=H.len;omega
   ·exact hc
 lt h y b hy hb:=by
  rcases getElem?_snoc hy with⟨h3,h4⟩|⟨h3,rfl⟩
  ·exact H.lt h y b h4 hb
  ·exact hlt b hb
 apart h h' d d' y y' b hd hd' hl hl' hy hy' hb hb':=by
  have hlen:=H.len
  rcases getElem?_snoc hy with⟨h3,h4⟩|⟨h3,rfl⟩
  ·rcases getElem?_snoc hy' with⟨h5,h6⟩|⟨h5,rfl⟩
   ·rw [List.getElem?_append_left (by omega)]at hd hd'
    exact H.apart h h' d d' y y' b hd hd' hl hl' h4 h6 hb hb'
   ·exact(hnew h y b h4 hb hb').elim
  ·rcases getElem?_snoc hy' with⟨h5,h6⟩|⟨h5,rfl⟩
   ·exact(hnew h' y' b h6 hb' hb).elim
   ·omega
 psn h d y b hd hl hy hb:=by
  rcases getElem?_snoc hy with⟨h3,h4⟩|⟨h3,rfl⟩
  ·rw [List.getElem?_append_left (by have:=H.len;omega)]at hd
   exact H.psn h d y b hd hl h4 hb
  ·exact hσ b hb
theorem Fr.push {w0 σ0 β0 w σ β} (F:Fr w0 σ0 β0 w σ β) {x:HB} (hx:∀b,b∈x.blks→w0.heap.size≤b∨inB β0 b):Fr w0 σ0 β0 w σ (β++[x]):=
 ⟨F.os,F.tape,F.output,F.size,F.block,F.le,F.new,F.pre.trans (HB.le_append _ _),fun h y b hy hb=>by
  rcases getElem?_snoc hy with⟨h3,h4⟩|⟨h3,rfl⟩
  ·exact F.fresh h y b h4 hb
  ·exact hx b hb⟩
theorem HeapOK.no {w σ β own} (H:HeapOK w σ β own) {b:Nat} (hb:w.heap.size≤b):σ b=none:=by
 cases h:σ b with
 |none=>rfl
 |some cs=>exact absurd (H.ph _ _ h).lt (by omega)
theorem HeapOK.write {w σ β own} (H:HeapOK w σ β own) {h:Nat} {x:HB} {b:Nat} {c c':Chunk} {o:Obj} (hx:β[h]? =some x) (hb:b∈x.blks)
  (hc:own[h]? =some c) (hlv:live c=true) (hc':chunkOK (put w b o) σ β c' x):HeapOK (put w b o) σ β (own.set h c') where
 ph k cs hk:=by
  have hσ:=H.psn h c x b hc hlv hx hb
  have hne:k≠b:=by rintro rfl;rw [hσ]at hk;cases hk
  obtain⟨T,fz,e⟩:=H.ph k cs hk
  exact⟨T,fz,by rw [put_get_ne hne];exact e⟩
 len:=by simp [H.len]
 ok i c y hci hy:=by
  rw [List.getElem?_set]at hci
  by_cases hi:h=i
  ·subst hi
   rw [hx]at hy;cases hy
   split at hci
   ·split at hci
    ·cases hci;exact hc'
    ·cases hci
   ·exact absurd rfl (by assumption)
  ·rw [if_neg hi]at hci
   refine chunkOK.step (PH.le.refl _) (HB.le.refl _) (H.ok i _ y hci hy) (fun _ _ _ h=>h) (fun hl k hk=>put_get_ne ?_)
   rintro rfl
   exact hi (H.apart h i _ _ x y k hc hci hlv hl hx hy hb hk)
 lt i y k hy hk:=by have:=H.lt i y k hy hk;simpa using this
 apart i j d d' y z k hd hd' hl hl' hy hz hk hk':=by
  have key:∀(i:Nat) (d:Chunk),(own.set h c')[i]? =some d→live d=true→∃d0,own[i]? =some d0∧live d0=true:=by
   intro i d hd hl
   by_cases hi:h=i
   ·subst hi;exact⟨c,hc,hlv⟩
   ·rw [List.getElem?_set_ne hi]at hd;exact⟨d,hd,hl⟩
  obtain⟨e1,q1,q2⟩:=key i d hd hl
  obtain⟨e2,q3,q4⟩:=key j d' hd' hl'
  exact H.apart i j e1 e2 y z k q1 q3 q2 q4 hy hz hk hk'
 psn i d y k hd hl hy hk:=by
  by_cases hi:h=i
  ·subst hi;exact H.psn h c y k hc hlv hy hk
  ·rw [List.getElem?_set_ne hi]at hd;exact H.psn i d y k hd hl hy hk
theorem Fr.write {w0 σ0 β0 w σ β} (F:Fr w0 σ0 β0 w σ β) {h:Nat} {x:HB} {b:Nat} {o:Obj} (hx:β[h]? =some x) (hb:b∈x.blks):Fr w0 σ0 β0 (put w b o) σ β:=
 ⟨F.os,F.tape,F.output,by simpa using F.size,fun k hk hn=>by
  rw [put_get_ne]
  ·exact F.block k hk hn
  ·rintro rfl
   rcases F.fresh h x k hx hb with h1|h1
   ·omega
   ·exact hn h1,F.le,F.new,F.pre,F.fresh⟩
end Go.Sx
end
section
namespace Go.Sx
structure TyD where
 size:Nat
 bytes:Nat
 desc:TypeDesc
 zero:Value
def TyOK (P:Program) (t:Nat) (d:TyD):Prop:=
 (∃i,P.info? t=some i∧i.size=d.size∧i.bytes=d.bytes∧i.zero=some d.zero)∧P.underlying t=some d.desc
theorem tyOK_mk {P:Program} {t:Nat} {d:TyD} (h1:(P.info? t).map (fun i=>(i.size,i.bytes,i.zero))=some (d.size,d.bytes,some d.zero)) (h2:P.underlying t=some d.desc):TyOK P t d:=by
 cases hi:P.info? t with
 |none=>rw [hi]at h1;cases h1
 |some i=>rw [hi]at h1;simp only [Option.map_some,Option.some.injEq,Prod.mk.injEq]at h1;exact⟨⟨i,hi,h1.1,h1.2.1,h1.2.2⟩,h2⟩
structure Env where
 P:Program
 tys:List (Nat×TyD)
 npre:Nat
 free:Nat→Bool:=fun _=>true
 nm:Bool:=true
def look:List (Nat×TyD)→Nat→Option TyD
 |[],_=>none
 |(k,d)::r,t=>match Nat.beq k t with|true=>some d|false=>look r t
def EnvOK (E:Env):Prop:=∀p∈E.tys,TyOK E.P p.1 p.2
theorem look_ok {P:Program}:∀{l:List (Nat×TyD)} {t:Nat} {d:TyD},(∀p∈l,TyOK P p.1 p.2)→look l t=some d→TyOK P t d
 |[],t,d,_,e=>by simp [look]at e
 |(k,d')::r,t,d,h,e=>by
  unfold look at e
  cases hb:Nat.beq k t with
  |true=>rw [hb]at e;cases e;have:=Nat.eq_of_beq_eq_true hb;subst this;exact h (k,d') (by simp)
  |false=>rw [hb]at e;exact look_ok (fun p hp=>h p (by simp [hp])) e
def aggD:TypeDesc→Bool
 |.struct _=>true
 |.array _ _=>true
 |_=>false
def ofV1:Value→SV
 |.int k n=> .num k n
 |.bool b=> .bl b
 |.slice none 0 0=> .nil
 |.string s=> .str s
 |v=> .raw v
def ofV:Value→SV
 |.agg cs=> .agg (cs.toList.map ofV1)
 |v=>ofV1 v
theorem rel_ofV1 (σ:PH) (β:List HB) (v:Value):rel σ β (ofV1 v) v:=by
 unfold ofV1;split<;>simp [rel]
theorem relL_ofV1 (σ:PH) (β:List HB):∀l:List Value,relL σ β (l.map ofV1) l
 |[]=>by simp [relL]
 |v::l=>by simp only [List.map_cons];exact relL_cons.2 ⟨rel_ofV1 σ β v,relL_ofV1 σ β l⟩
theorem rel_ofV (σ:PH) (β:List HB) (v:Value):rel σ β (ofV v) v:=by
 unfold ofV;split
 ·simp only [rel];exact⟨_,by simp,relL_ofV1 σ β _⟩
 ·exact rel_ofV1 σ β v
def scS:SV→Bool
 |.any | .agg _| .tup _| .shut _=>false
 |.raw v=>scalar v
 |_=>true
theorem scS_ok {σ β}:∀{s:SV} {v:Value},scS s=true→rel σ β s v→scalar v=true
 |.any,_,h,_| .agg _,_,h,_| .tup _,_,h,_| .shut _,_,h,_=>by simp [scS]at h
 |.num k n,v,_,h| .bl b,v,_,h| .str s,v,_,h| .nil,v,_,h=>by simp only [rel]at h;subst h;rfl
 |.raw x,v,hs,h=>by simp only [rel]at h;subst h;exact hs
 |.bp p,v,_,h=>by simp only [rel]at h;obtain⟨b,rfl,_⟩:=h;rfl
 |.psl _ _,v,_,h=>by simp only [rel]at h;obtain⟨a,cap,vss,rfl,_⟩:=h;rfl
 |.ful _ _,v,_,h=>by simp only [rel]at h;obtain⟨a,vss,rfl,_⟩:=h;rfl
 |.row _ _,v,_,h=>by simp only [rel]at h;obtain⟨x,y,_,_,rfl⟩:=h;rfl
 |.mp _,v,_,h=>by simp only [rel]at h;obtain⟨x,b,_,_,rfl⟩:=h;rfl
 |.elt2 _ _ _ _,v,_,h=>by simp only [rel]at h;obtain⟨x,y,b,_,_,_,rfl⟩:=h;rfl
 |.ifc _ _,v,_,h=>by simp only [rel]at h;obtain⟨u,rfl,_⟩:=h;rfl
 |.vec _,v,_,h=>by simp only [rel]at h;obtain⟨x,_,rfl⟩:=h;rfl
 |.ptr _ _,v,_,h=>by simp only [rel]at h;obtain⟨x,b,_,_,rfl⟩:=h;rfl
 |.elt _ _ _,v,_,h=>by simp only [rel]at h;obtain⟨x,b,_,_,rfl⟩:=h;rfl
 |.pptr _,v,_,h=>by simp only [rel]at h;obtain⟨b,off,vs,rfl,_⟩:=h;rfl
 |.fn _ _,v,_,h=>by simp only [rel]at h;obtain⟨vs,rfl,_⟩:=h;rfl
 |.fnb _ _,v,_,h=>by simp only [rel]at h;obtain⟨vs,rfl,_⟩:=h;rfl
theorem scalar_cells {v:Value} (h:scalar v=true):v.cells= #[v]:=by cases v<;>simp [scalar,Value.cells]at h⊢
def SV.cells:SV→Option (List SV)
 |.agg l=>if l.all scS then some l else none
 |s=>if scS s then some [s]else none
theorem relL_sc {σ β}:∀{l:List SV} {vs:List Value},l.all scS=true→relL σ β l vs→∀v∈vs,scalar v=true
 |[],vs,_,h=>by simp only [relL]at h;subst h;simp
 |s::l,vs,hs,h=>by
  simp only [relL]at h;obtain⟨v,vs',rfl,hr,hl⟩:=h
  simp only [List.all_cons,Bool.and_eq_true]at hs
  intro u hu
  rcases List.mem_cons.1 hu with rfl|hu
  ·exact scS_ok hs.1 hr
  ·exact relL_sc hs.2 hl u hu
theorem cells_ok {σ β} {s:SV} {v:Value} {l:List SV} (hc:s.cells=some l) (h:rel σ β s v):
  relL σ β l v.cells.toList∧(∀u∈v.cells.toList,scalar u=true):=by
 have single:∀{s:SV},scS s=true→l=[s]→rel σ β s v→relL σ β l v.cells.toList∧(∀u∈v.cells.toList,scalar u=true):=by
  rintro s hs rfl hr
  have:=scS_ok hs hr
  rw [scalar_cells this]
  refine⟨relL_cons.2 ⟨hr,by simp [relL]⟩,?_⟩
  intro u hu;simp at hu;subst hu;exact this
 unfold SV.cells at hc
 split at hc
 ·split at hc
  ·rename_i l' hall
   cases hc
   simp only [rel]at h
   obtain⟨vs,rfl,hr⟩:=h
   exact⟨by simpa [Value.cells]using hr,by simpa [Value.cells]using relL_sc hall hr⟩
  ·cases hc
 ·split at hc
  ·rename_i hs;cases hc;exact single hs rfl h
  ·cases hc
mutual
def closed:SV→Bool
 |.vec _| .ptr _ _| .elt _ _ _| .row _ _| .mp _| .elt2 _ _ _ _=>false
 |.agg l=>closedL l
 |.tup l=>closedL l
 |.fn _ l=>closedL l
 |.fnb _ l=>closedL l
 |.ifc _ s=>closed s
 |_=>true
def closedL:List SV→Bool
 |[]=>true
 |s::l=>closed s && closedL l
end
mutual
theorem rel_closed {σ β}:∀(s:SV) (v:Value),closed s=true→rel σ β s v→rel σ [] s v
 |.vec _,_,h,_| .ptr _ _,_,h,_| .elt _ _ _,_,h,_| .row _ _,_,h,_| .mp _,_,h,_| .elt2 _ _ _ _,_,h,_=>by simp [closed]at h
 |.ifc t s,v,h,hr=>by simp only [rel,closed]at*;obtain⟨u,e,hr⟩:=hr;exact⟨u,e,rel_closed s u h hr⟩
 |.agg l,v,h,hr=>by simp only [rel,closed]at*;obtain⟨vs,e,hr⟩:=hr;exact⟨vs,e,relL_closed l vs h hr⟩
 |.tup l,v,h,hr=>by simp only [rel,closed]at*;obtain⟨vs,e,hr⟩:=hr;exact⟨vs,e,relL_closed l vs h hr⟩
 |.fn f l,v,h,hr=>by simp only [rel,closed]at*;obtain⟨vs,e,hr⟩:=hr;exact⟨vs,e,relL_closed l vs h hr⟩
 |.fnb f l,v,h,hr=>by simp only [rel,closed]at*;obtain⟨vs,e,hr⟩:=hr;exact⟨vs,e,relL_closed l vs h hr⟩
 |.any,_,_,_=>by simp [rel]
 |.num _ _,_,_,h| .bp _,_,_,h| .bl _,_,_,h| .str _,_,_,h| .nil,_,_,h| .raw _,_,_,h| .psl _ _,_,_,h| .ful _ _,_,_,h| .pptr _,_,_,h| .shut _,_,_,h=>by simpa only [rel]using h
theorem relL_closed {σ β}:∀(l:List SV) (vs:List Value),closedL l=true→relL σ β l vs→relL σ [] l vs
 |[],vs,_,h=>by simpa only [relL]using h
 |s::l,vs,h,hr=>by
  simp only [relL,closedL,Bool.and_eq_true]at*
  obtain⟨v,vs',e,h1,h2⟩:=hr
  exact⟨v,vs',e,rel_closed s v h.1 h1,relL_closed l vs' h.2 h2⟩
end
theorem nbeq_false {a b:Nat} (h:Nat.beq a b=false):a≠b:=by rintro rfl;rw [Nat.beq_refl]at h;cases h
def forceL {α:Type}:List α→(List α→Prop)→Prop
 |[],k=>k []
 |x::l,k=>forceL l fun l'=>k (x::l')
theorem forceL_eq {α:Type}:∀(l:List α) (k:List α→Prop),forceL l k=k l
 |[],_=>rfl
 |x::l,k=>by simp only [forceL];exact forceL_eq l _
def nats:List Nat:=[0,1,2,3,4,5,6,7,8,9,10,11,12,13,14,15,16,17,18,19,20,21,22,23,24,25,26,27,28,29,30,31,32,33,34,35,36,37,38,39,40,41,42,43,44,45,46,47,48,49,50,51,52,53,54,55,56,57,58,59,60,61,62,63,64,65,66,67,68,69,70,71,72,73,74,75,76,77,78,79,80,81,82,83,84,85,86,87,88,89,90,91,92,93,94,95,96,97,98,99,100,101,102,103,104,105,106,107,108,109,110,111,112,113,114,115,116,117,118,119,120,121,122,123,124,125,126,127,128,129,130,131,132,133,134,135,136,137,138,139,140,141,142,143,144,145,146,147,148,149,150,151,152,153,154,155,156,157,158,159]
def forceN (n:Nat) (k:Nat→Prop):Prop:=
 match nats[n]? with
 |some m=>k m
 |none=>False
theorem nats_eq:nats=List.range 160:=by decide
theorem forceN_ok {n:Nat} {k:Nat→Prop} (h:forceN n k):k n:=by
 unfold forceN at h
 split at h
 ·rename_i m hm
  rw [nats_eq]at hm
  obtain⟨hlt,e⟩:=List.getElem?_eq_some_iff.1 hm
  simp at e;subst e;exact h
 ·exact h.elim
def forceNE (n:Nat) (k:Nat→Prop):Prop:=
 match nats[n]? with
 |some m=>k m
 |none=>k n
theorem forceNE_eq (n:Nat) (k:Nat→Prop):forceNE n k=k n:=by
 unfold forceNE
 split
 ·rename_i m hm
  rw [nats_eq]at hm
  obtain⟨hlt,e⟩:=List.getElem?_eq_some_iff.1 hm
  simp at e;subst e;rfl
 ·rfl
def forceV0 (s:SV) (k:SV→Prop):Prop:=
 match s with
 |.any =>k .any
 |.num kd n=>k (.num kd n)
 |.bp p=>k (.bp p)
 |.bl b=>k (.bl b)
 |.str s=>k (.str s)
 |.nil =>k .nil
 |.psl e r=>k (.psl e r)
 |.ful e r=>k (.ful e r)
 |.vec h=>forceNE h fun h=>k (.vec h)
 |.row h i=>forceNE h fun h=>k (.row h i)
 |.mp h=>forceNE h fun h=>k (.mp h)
 |.ptr h o=>forceNE h fun h=>k (.ptr h o)
 |.elt h i o=>forceNE h fun h=>k (.elt h i o)
 |.elt2 h i j o=>forceNE h fun h=>k (.elt2 h i j o)
 |.pptr c=>k (.pptr c)
 |.agg l=>k (.agg l)
 |.tup l=>k (.tup l)
 |.fn f c=>k (.fn f c)
 |.fnb f c=>k (.fnb f c)
 |.raw v=>k (.raw v)
 |.ifc t s=>k (.ifc t s)
 |.shut s=>k (.shut s)
theorem forceV0_eq (s:SV) (k:SV→Prop):forceV0 s k=k s:=by cases s<;>simp only [forceV0,forceNE_eq]
def forceFL (f:SV→(SV→Prop)→Prop):List SV→(List SV→Prop)→Prop
 |[],k=>k []
 |s::l,k=>f s fun s=>forceFL f l fun l=>k (s::l)
theorem forceFL_eq {f:SV→(SV→Prop)→Prop} (hf:∀s k,f s k=k s):∀(l:List SV) (k:List SV→Prop),forceFL f l k=k l
 |[],_=>rfl
 |s::l,k=>by simp only [forceFL,hf];exact forceFL_eq hf l _
def forceF:Nat→SV→(SV→Prop)→Prop
 |0,s,k=>forceV0 s k
 |n+1,s,k=>match s with
  |.agg l=>forceFL (forceF n) l fun l=>k (.agg l)
  |.tup l=>forceFL (forceF n) l fun l=>k (.tup l)
  |.fn f l=>forceFL (forceF n) l fun l=>k (.fn f l)
  |.fnb f l=>forceFL (forceF n) l fun l=>k (.fnb f l)
  |.pptr l=>forceFL (forceF n) l fun l=>k (.pptr l)
  |.any =>k .any
  |.num kd n=>k (.num kd n)
  |.bp p=>k (.bp p)
  |.bl b=>k (.bl b)
  |.str s=>k (.str s)
  |.nil =>k .nil
  |.psl e r=>k (.psl e r)
  |.ful e r=>k (.ful e r)
  |.vec h=>forceNE h fun h=>k (.vec h)
  |.row h i=>forceNE h fun h=>k (.row h i)
  |.mp h=>forceNE h fun h=>k (.mp h)
  |.ptr h o=>forceNE h fun h=>k (.ptr h o)
  |.elt h i o=>forceNE h fun h=>k (.elt h i o)
  |.elt2 h i j o=>forceNE h fun h=>k (.elt2 h i j o)
  |.raw v=>k (.raw v)
  |.ifc t s=>forceF n s fun s=>k (.ifc t s)
  |.shut s=>k (.shut s)
theorem forceF_eq:∀(n:Nat) (s:SV) (k:SV→Prop),forceF n s k=k s
 |0,s,k=>forceV0_eq s k
 |n+1,s,k=>by cases s<;>simp only [forceF,forceFL_eq (forceF_eq n),forceF_eq n,forceNE_eq]
def forceVL (l:List SV) (k:List SV→Prop):Prop:=forceFL (forceF 2) l k
theorem forceVL_eq (l:List SV) (k:List SV→Prop):forceVL l k=k l:=forceFL_eq (forceF_eq 2) l k
def forceC (c:Chunk) (k:Chunk→Prop):Prop:=
 match c with
 |.box l=>forceVL l fun l=>k (.box l)
 |.vec e r=>k (.vec e r)
 |.mat e r=>k (.mat e r)
 |.hol e r i=>k (.hol e r i)
 |.opn e r i l=>forceVL l fun l=>k (.opn e r i l)
 |.mapI l=>k (.mapI l)
 |.mapS l=>k (.mapS l)
 |.fro e r=>k (.fro e r)
 |.fru e r=>k (.fru e r)
 |.frb l=>k (.frb l)
 |.dead =>k .dead
theorem forceC_eq (c:Chunk) (k:Chunk→Prop):forceC c k=k c:=by cases c<;>simp only [forceC,forceVL_eq]
def forceO:List Chunk→(List Chunk→Prop)→Prop
 |[],k=>k []
 |c::l,k=>forceC c fun c=>forceO l fun l=>k (c::l)
theorem forceO_eq:∀(l:List Chunk) (k:List Chunk→Prop),forceO l k=k l
 |[],_=>rfl
 |c::l,k=>by simp only [forceO,forceC_eq];exact forceO_eq l _
def forceR:List (List SV)→(List (List SV)→Prop)→Prop
 |[],k=>k []
 |r::l,k=>forceVL r fun r=>forceR l fun l=>k (r::l)
theorem forceR_eq:∀(l:List (List SV)) (k:List (List SV)→Prop),forceR l k=k l
 |[],_=>rfl
 |r::l,k=>by simp only [forceR,forceVL_eq];exact forceR_eq l _
def forceV (s:SV) (k:SV→Prop):Prop:=
 match s with
 |.any =>k .any
 |.num kd n=>k (.num kd n)
 |.bp p=>k (.bp p)
 |.bl b=>k (.bl b)
 |.str s=>k (.str s)
 |.nil =>k .nil
 |.psl e r=>k (.psl e r)
 |.ful e r=>k (.ful e r)
 |.vec h=>forceN h fun h=>k (.vec h)
 |.row h i=>forceN h fun h=>k (.row h i)
 |.mp h=>forceN h fun h=>k (.mp h)
 |.ptr h o=>forceN h fun h=>forceN o fun o=>k (.ptr h o)
 |.elt h i o=>forceN h fun h=>forceN o fun o=>k (.elt h i o)
 |.elt2 h i j o=>forceN h fun h=>forceN o fun o=>k (.elt2 h i j o)
 |.pptr c=>forceVL c fun c=>k (.pptr c)
 |.agg l=>forceVL l fun l=>k (.agg l)
 |.tup l=>forceVL l fun l=>k (.tup l)
 |.fn f c=>forceVL c fun c=>k (.fn f c)
 |.fnb f c=>forceVL c fun c=>k (.fnb f c)
 |.raw v=>k (.raw v)
 |.ifc t s=>forceF 2 s fun s=>k (.ifc t s)
 |.shut s=>k (.shut s)
theorem forceV_ok {s:SV} {k:SV→Prop} (h:forceV s k):k s:=by
 cases s<;>simp only [forceV,forceVL_eq,forceF_eq]at h<;>first|exact h|exact forceN_ok h|exact forceN_ok (forceN_ok h)|exact forceN_ok (k:=fun h=>k (.row h _)) h|exact forceN_ok (k:=fun o=>k (.ptr _ o)) (forceN_ok h)|exact forceN_ok (k:=fun o=>k (.elt _ _ o)) (forceN_ok h)|exact forceN_ok (k:=fun o=>k (.elt2 _ _ _ o)) (forceN_ok h)
structure SS where
 tm:List (Nat×SV)
 own:List Chunk
def tlook:List (Nat×SV)→Nat→SV
 |[],_=> .any
 |(k,s)::r,t=>match Nat.beq k t with
  |true=>s
  |false=>tlook r t
def SS.ev (S:SS) (x:Operand):SV:=
 match x with
 |.tmp t=>tlook S.tm t
 |.const v=>ofV v
 |.global g=> .raw (.pointer (some ⟨g,0,none⟩))
 |.func f=> .fn f []
def SS.set (S:SS) (d:Option Tmp) (s:SV):SS:=
 match d with
 |some d=>⟨(d,s)::S.tm,S.own⟩
 |none=>S
def SS.withTm (S:SS) (k:List (Nat×SV)→Prop):Prop:=
 match S with
 |⟨tm,_⟩=>k tm
def SS.un (S:SS) (k:List (Nat×SV)→List Chunk→Prop):Prop:=
 match S with
 |⟨tm,own⟩=>k tm own
theorem SS.un_eq (S:SS) (k:List (Nat×SV)→List Chunk→Prop):S.un k=k S.tm S.own:=rfl
theorem SS.withTm_eq (S:SS) (k:List (Nat×SV)→Prop):S.withTm k=k S.tm:=rfl
def SS.setK (S:SS) (d:Option Tmp) (s:SV) (k:SS→Prop):Prop:=
 match S with
 |⟨tm,own⟩=>match d with
  |some d=>k ⟨(d,s)::tm,own⟩
  |none=>k ⟨tm,own⟩
theorem SS.setK_eq (S:SS) (d:Option Tmp) (s:SV) (k:SS→Prop):S.setK d s k=k (S.set d s):=by cases S;cases d<;>rfl
def RT (σ:PH) (β:List HB) (tm:List (Nat×SV)) (tmps:Array Value):Prop:=∀t:Nat,rel σ β (tlook tm t) (tmps.getD t undef)
theorem RT.mono {σ σ':PH} (hs:PH.le σ σ') {β β':List HB} (hb:HB.le β β') {tm tmps} (h:RT σ β tm tmps):RT σ' β' tm tmps:=fun t=>rel.mono hs hb _ _ (h t)
structure Par where
 n:Nat
 pin:Nat→Option Obj
 free:Nat→Bool
 ds:List Deferred
 hd:Nat→Bool
structure PinOK (nt:Par) (w:World) (β:List HB):Prop where
 at_:∀b o,nt.pin b=some o→w.heap[b]? =some o
 fr:∀(h:Nat) (x:HB) (b:Nat),β[h]? =some x→(nt.free h=true∨nt.hd b=true)→b∈x.blks→nt.pin b=none
structure GG (w0:World) (σ0:PH) (β0:List HB) (nt:Par) (σ:PH) (β:List HB) (S:SS) (a:Act) (w:World):Prop where
 tm:RT σ β S.tm a.tmps
 sz:a.tmps.size=nt.n
 df:a.defers=nt.ds
 hp:HeapOK w σ β S.own
 fr:Fr w0 σ0 β0 w σ β
 pn:PinOK nt w β
def G (w0:World) (σ0:PH) (β0:List HB) (nt:Par) (S:SS) (a:Act) (w:World):Prop:=∃σ β,GG w0 σ0 β0 nt σ β S a w
structure EOK (E:Env) (β0:List HB) (nt:Par):Prop where
 np:E.npre=β0.length
 fr:E.free=nt.free
 nm:E.nm=true→∀h,nt.free h=true
structure BP (nt:Par):Prop where
 a:∀b,nt.hd b=true→nt.pin b≠none
 b:∀b o,nt.pin b=some o→nt.hd b=true∧∀cs T fz,o≠ .cells cs T fz
theorem PinOK.lt {nt w β} (h:PinOK nt w β) {b:Nat} {o:Obj} (hb:nt.pin b=some o):b<w.heap.size:=lt_of_get (h.at_ b o hb)
theorem PinOK.new {nt w β} (h:PinOK nt w β) {b:Nat} (hb:w.heap.size≤b):nt.pin b=none:=by
 cases hp:nt.pin b with
 |none=>rfl
 |some o=>have:=h.lt hp;omega
theorem PinOK.step {nt w w' β β'} (h:PinOK nt w β) (hk:∀b o,nt.pin b=some o→w.heap[b]? =some o→w'.heap[b]? =some o)
  (hn:∀(i:Nat) (x:HB) (b:Nat),β'[i]? =some x→(nt.free i=true∨nt.hd b=true)→b∈x.blks→β[i]? =some x∨nt.pin b=none):PinOK nt w' β':=
 ⟨fun b o hb=>hk b o hb (h.at_ b o hb),fun i x b hi hf hb=>by
  rcases hn i x b hi hf hb with h1|h1
  ·exact h.fr i x b h1 hf hb
  ·exact h1⟩
theorem PinOK.alloc {nt w β} (h:PinOK nt w β) (o:Obj):PinOK nt (w.alloc o) β:=
 h.step (fun b o' _ hb=>by rw [heap_alloc_lt w o (lt_of_get hb)];exact hb) (fun i x b hi _ _=> .inl hi)
theorem PinOK.push {nt w β} (h:PinOK nt w β) {x:HB} (hx:∀b,b∈x.blks→nt.pin b=none):PinOK nt w (β++[x]):=
 h.step (fun _ _ _ hb=>hb) (fun i y b hi _ hb=>by
  rcases getElem?_snoc hi with⟨_,h4⟩|⟨_,rfl⟩
  ·exact .inl h4
  ·exact .inr (hx b hb))
theorem PinOK.put {nt w β} (h:PinOK nt w β) {b:Nat} {o:Obj} (hb:nt.pin b=none):PinOK nt (put w b o) β:=
 h.step (fun k o' hk hk'=>by rw [put_get_ne (by rintro rfl;rw [hb]at hk;cases hk)];exact hk') (fun i x b hi _ _=> .inl hi)
theorem GG.ev {w0 σ0 β0 nt σ β S a w} (h:GG w0 σ0 β0 nt σ β S a w) (x:Operand):rel σ β (S.ev x) (a.eval x):=by
 cases x with
 |tmp t=>exact h.tm t
 |const v=>exact rel_ofV σ β v
 |global g=>simp [SS.ev,rel,Act.eval]
 |func f=>simp only [SS.ev,rel,Act.eval];exact⟨[],rfl,by simp [relL]⟩
theorem GG.set {w0 σ0 β0 nt σ β S a w} (h:GG w0 σ0 β0 nt σ β S a w) {s:SV} {v:Value} (hr:rel σ β s v) (d:Option Tmp) (hd:∀t,d=some t→t<nt.n):
  GG w0 σ0 β0 nt σ β (S.set d s) (a.put d v) w:=by
 cases d with
 |none=>exact h
 |some d=>
  refine⟨fun t=>?_,by simpa [Act.put]using h.sz,h.df,h.hp,h.fr,h.pn⟩
  have hlt:=hd d rfl
  rw [←h.sz]at hlt
  simp only [SS.set,Act.put,tlook]
  rw [Array.getD_eq_getD_getElem?,Array.getElem?_setIfInBounds]
  split
  ·rename_i hb;have:=Nat.eq_of_beq_eq_true hb;subst this
   rw [if_pos rfl,if_pos hlt];exact hr
  ·rename_i hb;rw [if_neg (nbeq_false hb),←Array.getD_eq_getD_getElem?];exact h.tm t
mutual
def nrm (own:List Chunk):SV→SV
 |.vec h=>match own[h]? with
  |some (.fro e r)=> .psl e r
  |some (.fru e r)=> .ful e r
  |_=> .vec h
 |.ptr h o=>match own[h]? with
  |some (.frb cells)=>match Nat.ble o cells.length with
   |true=> .pptr (cells.drop o)
   |false=> .ptr h o
  |_=> .ptr h o
 |.agg l=> .agg (nrmL own l)
 |.tup l=> .tup (nrmL own l)
 |.fn f l=> .fn f (nrmL own l)
 |.fnb f l=> .fnb f (nrmL own l)
 |.any => .any
 |.num kd n=> .num kd n
 |.bp p=> .bp p
 |.bl b=> .bl b
 |.str s=> .str s
 |.nil => .nil
 |.psl e r=> .psl e r
 |.ful e r=> .ful e r
 |.row h i=> .row h i
 |.mp h=> .mp h
 |.elt h i o=> .elt h i o
 |.elt2 h i j o=> .elt2 h i j o
 |.pptr c=> .pptr c
 |.raw v=> .raw v
 |.ifc t s=> .ifc t (nrm own s)
 |.shut s=> .shut s
def nrmL (own:List Chunk):List SV→List SV
 |[]=>[]
 |s::l=>nrm own s::nrmL own l
end
mutual
theorem rel_nrm {w:World} {σ β own} (H:HeapOK w σ β own):∀(s:SV) (v:Value),rel σ β s v→rel σ β (nrm own s) v
 |.vec h,v,hr=>by
  simp only [nrm];split
  ·rename_i e r hc
   simp only [rel]at hr
   obtain⟨x,hx,rfl⟩:=hr
   exact rel.mono (PH.le.refl _) (fun _ _ h=>by simp at h) _ _ (H.ok _ _ _ hc hx).2
  ·rename_i e r hc
   simp only [rel]at hr
   obtain⟨x,hx,rfl⟩:=hr
   exact rel.mono (PH.le.refl _) (fun _ _ h=>by simp at h) _ _ (H.ok _ _ _ hc hx).2
  ·exact hr
 |.ifc t s,v,hr=>by simp only [rel,nrm]at*;obtain⟨u,e,hr⟩:=hr;exact⟨u,e,rel_nrm H s u hr⟩
 |.ptr h o,v,hr=>by
  simp only [nrm];split
  ·rename_i cells hc
   split
   ·rename_i hle
    have hle:=Nat.le_of_ble_eq_true hle
    simp only [rel]at hr
    obtain⟨x,b,hx,hb,rfl⟩:=hr
    obtain⟨b',vs,hb',hrv,⟨hscA,A,C,hσ,hA⟩⟩:=H.ok _ _ _ hc hx
    rw [hb]at hb';cases hb'
    have hA0:A=[]:=List.length_eq_zero_iff.1 hA
    subst hA0
    have hlen:=relL_length hrv
    simp only [rel]
    exact⟨b,o,vs.drop o,rfl,relL_drop o hrv,⟨fun v hv=>hscA v (List.mem_of_mem_drop hv),vs.take o,C,by rw [hσ];simp,by simp;omega⟩⟩
   ·exact hr
  ·exact hr
 |.agg l,v,hr=>by simp only [rel,nrm]at*;obtain⟨vs,e,hr⟩:=hr;exact⟨vs,e,relL_nrm H l vs hr⟩
 |.tup l,v,hr=>by simp only [rel,nrm]at*;obtain⟨vs,e,hr⟩:=hr;exact⟨vs,e,relL_nrm H l vs hr⟩
 |.fn f l,v,hr=>by simp only [rel,nrm]at*;obtain⟨vs,e,hr⟩:=hr;exact⟨vs,e,relL_nrm H l vs hr⟩
 |.fnb f l,v,hr=>by simp only [rel,nrm]at*;obtain⟨vs,e,hr⟩:=hr;exact⟨vs,e,relL_nrm H l vs hr⟩
 |.any,_,_=>by simp [rel,nrm]
 |.num _ _,_,h| .bp _,_,h| .bl _,_,h| .str _,_,h| .nil,_,h| .raw _,_,h| .psl _ _,_,h| .ful _ _,_,h| .row _ _,_,h| .mp _,_,h| .elt2 _ _ _ _,_,h| .pptr _,_,h| .elt _ _ _,_,h| .shut _,_,h=>by simpa only [nrm]using h
theorem relL_nrm {w:World} {σ β own} (H:HeapOK w σ β own):∀(l:List SV) (vs:List Value),relL σ β l vs→relL σ β (nrmL own l) vs
 |[],vs,h=>by simpa only [relL,nrmL]using h
 |s::l,vs,hr=>by
  simp only [relL,nrmL]at*
  obtain⟨v,vs',e,h1,h2⟩:=hr
  exact⟨v,vs',e,rel_nrm H s v h1,relL_nrm H l vs' h2⟩
end
def SS.evN (S:SS) (x:Operand) (k:SV→Prop):Prop:=forceV (nrm S.own (S.ev x)) k
theorem GG.evN {w0 σ0 β0 nt σ β S a w} (g:GG w0 σ0 β0 nt σ β S a w) {x:Operand} {k:SV→Prop} (h:S.evN x k):∃s,rel σ β s (a.eval x)∧k s:=
 ⟨_,rel_nrm g.hp _ _ (g.ev x),forceV_ok h⟩
end Go.Sx
end
section
namespace Go.Sx
def need {α:Type} (o:Option α) (k:α→Prop):Prop:=
 match o with
 |some a=>k a
 |none=>False
theorem need_some {α:Type} {o:Option α} {k:α→Prop} (h:need o k):∃a,o=some a∧k a:=by
 cases o with
 |none=>exact h.elim
 |some a=>exact⟨a,rfl,h⟩
inductive ArOb (x:Int) (k:Int→Prop):Prop
 |fits (h: -9223372036854775808≤x∧x≤9223372036854775807) (hk:k x):ArOb x k
 |wraps (hk:k (IntKind.i64.wrap x)):ArOb x k
inductive ArU (x:Int) (k:Int→Prop):Prop
 |fits (h:0≤x∧x≤18446744073709551615) (hk:k x):ArU x k
 |wraps (hk:k (IntKind.u64.wrap x)):ArU x k
inductive ArB (x:Int) (k:Int→Prop):Prop
 |fits (h:0≤x∧x≤255) (hk:k x):ArB x k
 |wraps (hk:k (IntKind.u8.wrap x)):ArB x k
def arith (kd:IntKind) (x:Int) (k:Int→Prop):Prop:=
 match kd with
 |.i64 =>ArOb x k
 |.u64 =>ArU x k
 |.u8 =>ArB x k
 |kd=>k (kd.wrap x)
theorem arith_ok {kd : IntKind} {x : Int} {k : Int → Prop} (h : arith kd x k) : k (kd.wrap x) := by
  cases kd <;> first | exact h | skip
  · cases h with
    | fits h hk => rw [IntKind.wrap_i64]; have : (x + 9223372036854775808) % 18446744073709551616 - 9223372036854775808 = x := by omega
                   rw [this]; exact hk
    | wraps hk => exact hk
  · cases h with
    | fits h hk => rw [IntKind.wrap_u8]; have : x % 256 = x := by omega
                   rw [this]; exact hk
    | wraps hk => exact hk
  · cases h with
    | fits h hk => rw [IntKind.wrap_u64]; have : x % 18446744073709551616 = x := by omega
                   rw [this]; exact hk
    | wraps hk => exact hk
def band (kd:IntKind) (x y:Int):Int:=kd.wrap ((BitVec.ofInt kd.bits x &&& BitVec.ofInt kd.bits y).toNat)
def bor (kd:IntKind) (x y:Int):Int:=kd.wrap ((BitVec.ofInt kd.bits x|||BitVec.ofInt kd.bits y).toNat)
inductive CondOb (p:Prop) (A B:Prop):Prop
 |mk (t:p→A) (f:¬p→B):CondOb p A B
def ikc:IntKind→Nat
 |.i8 =>0| .i16 =>1| .i32 =>2| .i64 =>3| .u8 =>4| .u16 =>5| .u32 =>6| .u64 =>7
def same (a b:IntKind) (p:Prop):Prop:=
 match Nat.beq (ikc a) (ikc b)with
 |true=>p
 |false=>False
theorem same_ok {a b:IntKind} {p:Prop} (h:same a b p):a=b∧p:=by
 unfold same at h
 split at h
 ·rename_i hb;exact⟨by have:=Nat.eq_of_beq_eq_true hb;revert this;cases a<;>cases b<;>simp [ikc],h⟩
 ·exact h.elim
def binS (op:BinOp) (a b:SV) (k:SV→Prop):Prop:=
 match a,b with
 |.num ka x, .num kb y=>
  match op with
  |.add =>same ka kb (arith ka (x+y) fun r=>k (.num ka r))
  |.sub =>same ka kb (arith ka (x-y) fun r=>k (.num ka r))
  |.mul =>same ka kb (arith ka (x*y) fun r=>k (.num ka r))
  |.quo =>same ka kb (y≠0∧arith ka (x.tdiv y) fun r=>k (.num ka r))
  |.rem =>same ka kb (y≠0∧k (.num ka (x.tmod y)))
  |.eql =>same ka kb (k (.bp (x=y)))
  |.neq =>same ka kb (k (.bp (x≠y)))
  |.lss =>same ka kb (k (.bp (x<y)))
  |.leq =>same ka kb (k (.bp (x≤y)))
  |.gtr =>same ka kb (k (.bp (y<x)))
  |.geq =>same ka kb (k (.bp (y≤x)))
  |.and =>same ka kb (k (.num ka (band ka x y)))
  |.or =>same ka kb (k (.num ka (bor ka x y)))
  |.shr =>y=1∧k (.num ka (x/2))
  |_=>False
 |.str x, .str y=>
  match op with
  |.eql =>k (.bp (x=y))
  |.neq =>k (.bp (x≠y))
  |.add =>x.size+y.size≤9223372036854775807∧k (.str (x++y))
  |_=>False
 |_,_=>False
theorem ba_eq {x y:ByteArray}:(x.toList==y.toList)=true↔x=y:=by
 simp only [beq_iff_eq]
 constructor
 ·intro h;apply ByteArray.ext;rw [ByteArray.toList_eq,ByteArray.toList_eq]at h;exact Array.ext' h
 ·rintro rfl;rfl
theorem binS_ok {P : Program} {σ : PH} {β : List HB} {op : BinOp} {t : TypeId} {x y : Operand} {sa sb : SV} {a b : Value} {k : SV → Prop}
    (h : binS op sa sb k) (ha : rel σ β sa a) (hb : rel σ β sb b) :
    ∃ v s, (∀ w, (do eqGuard op t x y a b; binOp op t a b : Sem Value).run P w = .ok v w) ∧ rel σ β s v ∧ k s := by
  unfold binS at h
  split at h
  · rename_i ka m kb n
    simp only [rel] at ha hb
    subst ha; subst hb
    split at h
    all_goals first
      | (obtain ⟨rfl, hq⟩ := h
         exact ⟨.int ka (m / 2), _, (fun w => by
           have hb : min 1 ka.bits = 1 := by cases ka <;> rfl
           simp [eqGuard, binOp, Op.shift, hb]; exact Int.fdiv_eq_ediv_of_nonneg _ (by decide)), by simp only [rel], hq⟩)
      | (obtain ⟨e, hq⟩ := same_ok h; clear h; subst e; exact ⟨_, _, (fun w => by simp [eqGuard, binOp, Op.intArith]; rfl), by simp only [rel], arith_ok hq⟩)
      | (obtain ⟨e, hy, hq⟩ := same_ok h; clear h; subst e; exact ⟨_, _, (fun w => by simp [eqGuard, binOp, Op.intDiv, hy]; rfl), by simp only [rel], arith_ok hq⟩)
      | (obtain ⟨e, hy, hq⟩ := same_ok h; clear h; subst e; exact ⟨_, _, (fun w => by simp [eqGuard, binOp, Op.intDiv, hy]; rfl), by simp only [rel], hq⟩)
      | (obtain ⟨e, hq⟩ := same_ok h; clear h; subst e; exact ⟨_, _, (fun w => by simp [eqGuard, binOp, Op.intCmp]; rfl), by simp only [rel]; exact ⟨_, rfl, by simp⟩, hq⟩)
      | (obtain ⟨e, hq⟩ := same_ok h; clear h; subst e; have hq2 : k (SV.num ka (band ka m n)) := hq; exact ⟨.int ka (band ka m n), _, (fun w => by simp [eqGuard, binOp, Op.intBits, band]), by simp only [rel], hq⟩)
      | (obtain ⟨e, hq⟩ := same_ok h; clear h; subst e; have hq2 : k (SV.num ka (bor ka m n)) := hq; exact ⟨.int ka (bor ka m n), _, (fun w => by simp [eqGuard, binOp, Op.intBits, bor]), by simp only [rel], hq⟩)
      | exact h.elim
  · rename_i m n
    simp only [rel] at ha hb
    subst ha; subst hb
    split at h
    · exact ⟨_, _, (fun w => by simp [eqGuard, binOp, Op.stringOp]; rfl), by simp only [rel]; exact ⟨_, rfl, ba_eq⟩, h⟩
    · have e : (!(m.toList == n.toList)) = true ↔ m ≠ n := by rw [Bool.not_eq_true', ← Bool.not_eq_true, ba_eq]
      exact ⟨.bool (!(m.toList == n.toList)), _, (fun w => by simp [eqGuard, binOp, Op.stringOp]), by simp only [rel]; exact ⟨_, rfl, e⟩, h⟩
    · obtain ⟨hl, h⟩ := h
      exact ⟨.string (m ++ n), _, (fun w => by
        have : ¬ ((9223372036854775807 : Int) < (m.size : Int) + (n.size : Int)) := by omega
        simp [eqGuard, binOp, Op.stringOp, this]), by simp only [rel], h⟩
    · exact h.elim
  · exact h.elim
end Go.Sx
end
section
namespace Go.Sx
theorem tyOK_under {P:Program} {t:Nat} {d:TyD} (h:TyOK P t d) (w:World):(underlying t).run P w= .ok d.desc w:=run_underlying h.2 w
theorem tyOK_size {P:Program} {t:Nat} {d:TyD} (h:TyOK P t d) (w:World):(sizeOf t).run P w= .ok d.size w:=by
 obtain⟨⟨i,hi,hs,_,_⟩,_⟩:=h
 simp [sizeOf,typeInfo,hi,hs]
theorem tyOK_zero {P:Program} {t:Nat} {d:TyD} (h:TyOK P t d) (w:World):(zeroValue t).run P w= .ok d.zero w:=by
 obtain⟨⟨i,hi,_,_,hz⟩,_⟩:=h
 simp [zeroValue,typeInfo,hi,hz]
theorem run_isAgg {P:Program} {t:Nat} {d:TyD} (h:TyOK P t d) (w:World):(isAgg t).run P w= .ok (aggD d.desc) w:=by
 simp only [isAgg,Sem.run_bind,tyOK_under h,Result.andThen_ok]
 cases d.desc<;>rfl
def sub (ag:Bool) (n off:Nat) (cells:List SV):Option SV:=
 match ag with
 |true=>match Nat.ble (off+n) cells.length with|true=>some (.agg ((cells.drop off).take n))|false=>none
 |false=>cells[off]?
theorem relL_split {σ β} {l:List SV} {vs:List Value} (h:relL σ β l vs) (off n:Nat) (hn:off+n≤l.length):
  ∃a m c,vs=a++m++c∧a.length=off∧m.length=n∧relL σ β ((l.drop off).take n) m∧relL σ β (l.take off) a∧relL σ β (l.drop (off+n)) c:=by
 have hl:=relL_length h
 refine⟨vs.take off,(vs.drop off).take n,vs.drop (off+n),?_,by simp;omega,by simp;omega,relL_take n (relL_drop off h),relL_take off h,relL_drop _ h⟩
 rw [List.append_assoc]
 conv=>lhs;rw [←List.take_append_drop off vs,←List.take_append_drop n (vs.drop off)]
 simp
theorem run_loadVar {P:Program} {σ:PH} {β:List HB} {T:Nat} {d:TyD} (hT:TyOK P T d) {b base off:Nat} {pre vs post:List Value} {cells:List SV} {s:SV}
  (hp:pre.length=base) (hr:relL σ β cells vs) (hs:sub (aggD d.desc) d.size off cells=some s):
  ∃v,(∀w,Blk w b (pre++vs++post)→(Instr.loadAt T (.pointer (some ⟨b,base+off,none⟩))).run P w= .ok v w)∧rel σ β s v:=by
 simp only [Instr.loadAt,Instr.sureAddr,pure_bind,loadVar,Sem.run_bind,run_isAgg hT,Result.andThen_ok]
 cases hag:aggD d.desc with
 |true=>
  rw [hag]at hs
  simp only [sub]at hs
  split at hs
  ·rename_i hble;cases hs
   have hle:=Nat.le_of_ble_eq_true hble
   obtain⟨a,m,c,rfl,ha,hm,hrm,_,_⟩:=relL_split hr off d.size hle
   refine⟨.agg m.toArray,fun w hb=>?_,by simp only [rel];exact⟨m,rfl,hrm⟩⟩
   have hb':Blk w b ((pre++a)++m++(c++post)):=by simpa [List.append_assoc]using hb
   have hl:=run_loadSeg (P:=P) hb' (off:=base+off) (by simp;omega) hm
   simp [tyOK_size hT,hl]
  ·cases hs
 |false=>
  rw [hag]at hs
  simp only [sub]at hs
  obtain⟨v,hv,hrv⟩:=relL_get hr hs
  refine⟨v,fun w hb=>?_,hrv⟩
  have hc:=cell_seg hb hp off v hv
  have:(⟨b,base,none⟩:Addr).add off=⟨b,base+off,none⟩:=by
   unfold Addr.add;split
   ·rename_i h;subst h;rfl
   ·rfl
  rw [this]at hc
  simp [run_load,hc]
def spl (off:Nat) (cs cells:List SV):List SV:=cells.take off++cs++cells.drop (off+cs.length)
theorem run_storeVar {P:Program} {w:World} {σ:PH} {β:List HB} {T:Nat} {d:TyD} (hT:TyOK P T d) {b base off:Nat} {pre vs post:List Value} {cells cs:List SV} {v:Value} {e:TypeId}
  (hb:w.heap[b]? =some (.cells (pre++vs++post).toArray e (0,0))) (hp:pre.length=base) (hr:relL σ β cells vs)
  (hv:relL σ β cs v.cells.toList) (hsc:∀u∈v.cells.toList,scalar u=true) (hn:cs.length=d.size) (hle:off+d.size≤cells.length):
  ∃vs',(Instr.storeAt T (.pointer (some ⟨b,base+off,none⟩)) v).run P w= .ok () (put w b (.cells (pre++vs'++post).toArray e (0,0)))∧
   relL σ β (spl off cs cells) vs'∧vs'.length=vs.length∧(∀u∈vs',u∈vs∨scalar u=true):=by
 obtain⟨a,m,c,rfl,ha,hm,_,hra,hrc⟩:=relL_split hr off d.size hle
 have hvl:=relL_length hv
 have hsz:v.cells.size=d.size:=by rw [←Array.length_toList,hvl,hn]
 have hst:=run_storeSeg (P:=P) (b:=b) (off:=base+off) (T:=e) (post:=c++post) v.cells.toList m (pre++a) w 0
  (by rw [hb];simp [List.append_assoc]) (by simp;omega) (by rw [hm,Array.length_toList,hsz]) hsc
 refine⟨a++v.cells.toList++c,?_,?_,by simp [hm,hsz],?_⟩
 ·simp only [Instr.storeAt,Instr.sureAddr,pure_bind,storeVar,Sem.run_bind,tyOK_size hT,Result.andThen_ok]
  rw [if_neg (by simp [hsz]),hst]
  simp [List.append_assoc]
 ·unfold spl
  rw [hn]
  exact relL_append (relL_append hra hv) hrc
 ·intro u hu
  simp only [List.mem_append]at hu⊢
  rcases hu with(h|h)|h
  ·exact .inl (.inl (.inl h))
  ·exact .inr (hsc u h)
  ·exact .inl (.inr h)
end Go.Sx
end
section
namespace Go.Sx
theorem GG.push {w0 σ0 β0 nt σ β S a w} (g:GG w0 σ0 β0 nt σ β S a w) {x:HB} {c:Chunk} (hc:chunkOK w σ (β++[x]) c x)
  (hlt:∀b,b∈x.blks→b<w.heap.size) (hnew:∀(h:Nat) (y:HB) (b:Nat),β[h]? =some y→b∈y.blks→b∉x.blks) (hσ:∀b,b∈x.blks→σ b=none)
  (hfr:∀b,b∈x.blks→w0.heap.size≤b∨inB β0 b) (hpn:∀b,b∈x.blks→nt.pin b=none):
  GG w0 σ0 β0 nt σ (β++[x]) ⟨S.tm,S.own++[c]⟩ a w:=
 ⟨g.tm.mono (PH.le.refl _) (HB.le_append _ _),g.sz,g.df,g.hp.push hc hlt hnew hσ,g.fr.push hfr,g.pn.push hpn⟩
theorem GG.alloc {w0 σ0 β0 nt σ β S a w} (g:GG w0 σ0 β0 nt σ β S a w) {o:Obj} {x:HB} {c:Chunk} (hx:∀b,b∈x.blks→b=w.heap.size) (hc:chunkOK (w.alloc o) σ (β++[x]) c x):
  GG w0 σ0 β0 nt σ (β++[x]) ⟨S.tm,S.own++[c]⟩ a (w.alloc o):=by
 have g':GG w0 σ0 β0 nt σ β S a (w.alloc o):=⟨g.tm,g.sz,g.df,g.hp.alloc _,g.fr.alloc _,g.pn.alloc _⟩
 refine g'.push hc ?_ ?_ ?_ ?_ ?_
 ·intro b hb;rw [hx b hb];simp
 ·intro h y b hy hb hb';have:=g.hp.lt h y _ hy hb;have:=hx b hb';omega
 ·intro b hb;rw [hx b hb];exact g.hp.no (Nat.le_refl _)
 ·intro b hb;rw [hx b hb];exact .inl g.fr.size
 ·intro b hb;rw [hx b hb];exact g.pn.new (Nat.le_refl _)
theorem GG.newBox {w0 σ0 β0 nt σ β S a w} (g:GG w0 σ0 β0 nt σ β S a w) {cs:List SV} {vs:List Value} (hr:relL σ β cs vs) (hsc:∀u∈vs,scalar u=true) (T:TypeId):
  GG w0 σ0 β0 nt σ (β++[hb4 (some w.heap.size) 0 0 0]) ⟨S.tm,S.own++[.box cs]⟩ a (w.alloc (.cells vs.toArray T)):=
 g.alloc (fun b hb=>by have:=hb4_mem hb;cases this;rfl) ⟨w.heap.size,vs,rfl,g.hp.no (Nat.le_refl _),⟨hsc,T,heap_alloc_new _ _⟩,relL.mono (PH.le.refl _) (HB.le_append _ _) _ _ hr⟩
theorem GG.newVec {w0 σ0 β0 nt σ β S a w} (g:GG w0 σ0 β0 nt σ β S a w) {esz cap:Nat} {rows:List (List SV)} {vss:List (List Value)} {rest:List Value}
  (hr:relLL σ rows vss) (hrl:∀r∈rows,r.length=esz) (hcap:rows.length≤cap) (hlen:vss.flatten.length+rest.length=cap*esz)
  (hsc:∀u∈vss.flatten++rest,scalar u=true) (T:TypeId):
  GG w0 σ0 β0 nt σ (β++[hb4 (some w.heap.size) esz rows.length cap]) ⟨S.tm,S.own++[.vec esz rows]⟩ a (w.alloc (.cells (vss.flatten++rest).toArray T)):=
 g.alloc (fun b hb=>by have:=hb4_mem hb;cases this;rfl) ⟨rfl,rfl,hrl, .inr ⟨w.heap.size,vss,rest,rfl,g.hp.no (Nat.le_refl _),⟨hsc,T,heap_alloc_new _ _⟩,hr,hcap,hlen⟩⟩
theorem GG.noVec {w0 σ0 β0 nt σ β S a w} (g:GG w0 σ0 β0 nt σ β S a w) (esz:Nat) (z:Option Addr):
  GG w0 σ0 β0 nt σ (β++[⟨none,esz,0,0,z,[]⟩]) ⟨S.tm,S.own++[.vec esz []]⟩ a w:=
 g.push ⟨rfl,rfl,by simp, .inl ⟨rfl,rfl,rfl⟩⟩ (by simp [HB.blks]) (by simp [HB.blks]) (by simp [HB.blks]) (by simp [HB.blks]) (by simp [HB.blks])
theorem GG.nilVec {w0 σ0 β0 nt σ β S a w} (g:GG w0 σ0 β0 nt σ β S a w) (esz:Nat):
  GG w0 σ0 β0 nt σ (β++[hb4 none esz 0 0]) ⟨S.tm,S.own++[.vec esz []]⟩ a w:=g.noVec esz none
def elemD (E:Env) (t:Nat):Option TyD:=
 match look E.tys t with
 |some d=>match d.desc with
  |.slice e=>look E.tys e
  |_=>none
 |none=>none
theorem elemD_ok {E:Env} (hE:EnvOK E) {t:Nat} {de:TyD} (h:elemD E t=some de):∃d e,TyOK E.P t d∧d.desc= .slice e∧TyOK E.P e de:=by
 unfold elemD at h
 split at h
 ·rename_i d hd
  split at h
  ·rename_i e he;exact⟨d,e,look_ok hE hd,he,look_ok hE h⟩
  ·cases h
 ·cases h
def isSl:TypeDesc→Bool
 |.slice _=>true
 |_=>false
def loadS (E:Env) (S:SS) (T:Nat) (a:SV) (k:SV→Prop):Prop:=
 need (look E.tys T) fun d=>
  match a with
  |.ptr h off=>match S.own[h]? with
   |some (.box cells)=>need (sub (aggD d.desc) d.size off cells) fun s=>forceV s k
   |some (.frb cells)=>need (sub (aggD d.desc) d.size off cells) fun s=>forceV s k
   |_=>False
  |.elt h i off=>match S.own[h]? with
   |some (.vec _ rows)=>∃r,rows[i]? =some r∧need (sub (aggD d.desc) d.size off r) fun s=>forceV s k
   |some (.mat _ ms)=>match isSl d.desc && Nat.beq off 0 with
    |true=>i<ms.length∧k (.row h i)
    |false=>False
   |some (.opn _ _ j cells)=>i=j∧need (sub (aggD d.desc) d.size off cells) fun s=>forceV s k
   |_=>False
  |.elt2 h i j off=>match S.own[h]? with
   |some (.mat _ ms)=>∃m r,ms[i]? =some m∧m[j]? =some r∧need (sub (aggD d.desc) d.size off r) fun s=>forceV s k
   |_=>False
  |.pptr cells=>need (sub (aggD d.desc) d.size 0 cells) fun s=>forceV s k
  |_=>False
theorem VecOK.row {w:World} {σ:PH} {esz:Nat} {rows:List (List SV)} {blk:Option Nat} {len cap:Nat} (h:VecOK w σ esz rows blk len cap) {i:Nat} {r:List SV} (hi:rows[i]? =some r):
  ∃b A vs C T,blk=some b∧σ b=none∧w.heap[b]? =some (.cells (A++vs++C).toArray T (0,0))∧(∀u∈A++vs++C,scalar u=true)∧A.length=i*esz∧relL σ [] r vs:=by
 obtain⟨h2,h3,h4⟩:=h
 rcases h4 with⟨_,rfl,_⟩|⟨b,vss,rest,hb,hσ,⟨hsc,T,hO⟩,hr,_,_⟩
 ·simp at hi
 ·obtain⟨vs,hvs,hrv⟩:=relLL_get hr hi
  obtain⟨e,hl⟩:=flat_split (relLL_rows hr h3) hvs
  refine⟨b,(vss.take i).flatten,vs,(vss.drop (i+1)).flatten ++rest,T,hb,hσ,?_,?_,hl,hrv⟩
  ·rw [hO];rw [e];simp [List.append_assoc]
  ·intro u hu;apply hsc u;rw [e];simpa [List.append_assoc]using hu
theorem chunk_rows {w:World} {σ β} {esz:Nat} {rows:List (List SV)} {x:HB} (h:chunkOK w σ β (.vec esz rows) x) {i:Nat} {r:List SV} (hi:rows[i]? =some r):
  ∃b A vs C T,x.blk=some b∧x.esz=esz∧σ b=none∧w.heap[b]? =some (.cells (A++vs++C).toArray T (0,0))∧(∀u∈A++vs++C,scalar u=true)∧A.length=i*esz∧relL σ [] r vs:=by
 obtain⟨b,A,vs,C,T,h1,h2⟩:=VecOK.row h.2 hi
 exact⟨b,A,vs,C,T,h1,h.1,h2⟩
theorem set_flat {vss:List (List Value)} {i:Nat} (hi:i<vss.length) (vs:List Value):(vss.set i vs).flatten =(vss.take i).flatten ++vs++(vss.drop (i+1)).flatten :=by
 rw [List.set_eq_take_append_cons_drop,if_pos hi];simp
theorem take_len {vss:List (List Value)} {esz i:Nat} (h:∀r∈vss,r.length=esz) (hi:i<vss.length):(vss.take i).flatten.length =i*esz:=by
 rw [flat_length (esz:=esz) (fun r hr=>h r (List.mem_of_mem_take hr)),List.length_take,Nat.min_eq_left (by omega)]
theorem chunk_opn {w:World} {σ β} {esz:Nat} {rows:List (List SV)} {x:HB} {i:Nat} {cells:List SV} (h:chunkOK w σ β (.opn esz rows i cells) x):
  ∃b A vs C T,x.blk=some b∧x.esz=esz∧σ b=none∧w.heap[b]? =some (.cells (A++vs++C).toArray T (0,0))∧(∀u∈A++vs++C,scalar u=true)∧A.length=i*esz∧relL σ β cells vs:=by
 obtain⟨h1,h2,h3,h4,h5,b,vss,vs,rest,hb,hσ,⟨hsc,T,hO⟩,hr,hc,_,_⟩:=h
 have hil:i<vss.length:=by rw [relLL_length hr];exact h4
 refine⟨b,(vss.take i).flatten,vs,(vss.drop (i+1)).flatten ++rest,T,hb,h1,hσ,?_,?_,take_len (relLL_rows hr h3) hil,hc⟩
 ·rw [hO,set_flat hil];simp [List.append_assoc]
 ·intro u hu;apply hsc u;rw [set_flat hil];simpa [List.append_assoc]using hu
theorem chunk_mat {w:World} {σ β} {esz:Nat} {ms:List (List (List SV))} {x:HB} (h:chunkOK w σ β (.mat esz ms) x) {i:Nat} (hi:i<ms.length):
  ∃b y A C T,x.blk=some b∧x.inn[i]? =some y∧x.esz=1∧y.esz=esz∧VecOK w σ esz ms[i] y.blk y.len y.cap∧w.heap[b]? =some (.cells (A++[y.slice]++C).toArray T (0,0))∧A.length=i∧
   (∀u∈A++[y.slice]++C,scalar u=true):=by
 obtain⟨h1,h2,h3,h4,h5,h6⟩:=h
 have hil:i<x.inn.length:=by omega
 obtain⟨he,hv⟩:=h5 i x.inn[i] ms[i] (List.getElem?_eq_getElem hil) (List.getElem?_eq_getElem hi)
 rcases h6 with⟨_,rfl,_⟩|⟨b,rest,hb,hσ,⟨hsc,T,hO⟩,_,_⟩
 ·simp at hi
 ·have e:x.inn.map HI.slice++rest=(x.inn.take i).map HI.slice++[x.inn[i].slice]++((x.inn.drop (i+1)).map HI.slice++rest):=by
   have e0:x.inn=x.inn.take i++x.inn[i]::x.inn.drop (i+1):=by rw [←List.drop_eq_getElem_cons hil,List.take_append_drop]
   have e1:=congrArg (List.map HI.slice) e0
   rw [List.map_append,List.map_cons]at e1
   rw [e1];simp only [List.append_assoc,List.cons_append,List.nil_append]
  refine⟨b,x.inn[i],(x.inn.take i).map HI.slice,(x.inn.drop (i+1)).map HI.slice++rest,T,hb,List.getElem?_eq_getElem hil,h1,he,hv,by rw [hO,e],by simp;omega,?_⟩
  intro u hu;exact hsc u (by rw [e];exact hu)
def LdAt (σ:PH) (β:List HB) (own:List Chunk) (s:SV) (b:Nat):Prop:=
 (∃(h:Nat) (x:HB),((∃o,s= .ptr h o)∨(∃i o,s= .elt h i o)∨∃i j o,s= .elt2 h i j o)∧β[h]? =some x∧b∈x.blks∧((∃c,own[h]? =some c∧live c=true)∨∃cs,σ b=some cs))∨
 ((∃cells,s= .pptr cells)∧∃cs,σ b=some cs)
theorem loadS_ok' {E:Env} (hE:EnvOK E) {w0 σ0 β0 nt σ β S a w} (g:GG w0 σ0 β0 nt σ β S a w) {T:Nat} {s:SV} {v:Value} {k:SV→Prop} (h:loadS E S T s k) (hr:rel σ β s v):
  ∃u s' b cs,Blk w b cs∧(∀w',Blk w' b cs→(Instr.loadAt T v).run E.P w'= .ok u w')∧rel σ β s' u∧k s'∧
   LdAt σ β S.own s b:=by
 obtain⟨d,hd,hq1⟩:=need_some h
 clear h
 have h:=hq1
 clear hq1
 have hT:=look_ok hE hd
 split at h
 ·rename_i hh off
  split at h
  ·rename_i cells hc
   obtain⟨s',hs',hk⟩:=need_some h
   have hk:=forceV_ok hk
   simp only [rel]at hr
   obtain⟨x,b,hx,hb,rfl⟩:=hr
   obtain⟨b',vs,hb',hσ,⟨hsc,e,hO⟩,hcr⟩:=g.hp.ok _ _ _ hc hx
   rw [hb]at hb';cases hb'
   obtain⟨u,hu,hru⟩:=run_loadVar (P:=E.P) hT (base:=0) (pre:=[]) (post:=[]) (vs:=vs) (b:=b) rfl hcr hs'
   exact⟨u,s',b,vs,⟨e,(0,0),hO⟩,fun w' hw=>by simpa using hu w' (by simpa using hw),hru,hk, .inl ⟨hh,x, .inl ⟨_,rfl⟩,hx,HB.blk_mem hb, .inl ⟨_,hc,rfl⟩⟩⟩
  ·rename_i cells hc
   obtain⟨s',hs',hk⟩:=need_some h
   have hk:=forceV_ok hk
   simp only [rel]at hr
   obtain⟨x,b,hx,hb,rfl⟩:=hr
   obtain⟨b',vs,hb',hcr,⟨hscA,A,C,hσ,hA⟩⟩:=g.hp.ok _ _ _ hc hx
   rw [hb]at hb';cases hb'
   obtain⟨u,hu,hru⟩:=run_loadVar (P:=E.P) hT (b:=b) (post:=C) hA hcr hs'
   exact⟨u,s',b,_,g.hp.ph _ _ hσ,fun w' hw=>by simpa using hu w' hw,rel.mono (PH.le.refl _) (fun _ _ h=>by simp at h) _ _ hru,hk, .inl ⟨hh,x, .inl ⟨_,rfl⟩,hx,HB.blk_mem hb, .inr ⟨_,hσ⟩⟩⟩
  ·exact h.elim
 ·rename_i hh i off
  split at h
  ·rename_i esz rows hc
   obtain⟨r,hr',h⟩:=h
   obtain⟨s',hs',hk⟩:=need_some h
   have hk:=forceV_ok hk
   simp only [rel]at hr
   obtain⟨x,b,hx,hb,rfl⟩:=hr
   obtain⟨b',A,vs,C,e,hb',hesz,hσ,hO,hsc,hA,hrv⟩:=chunk_rows (g.hp.ok _ _ _ hc hx) hr'
   rw [hb]at hb';cases hb'
   subst hesz
   obtain⟨u,hu,hru⟩:=run_loadVar (P:=E.P) hT (b:=b) (post:=C) hA hrv hs'
   exact⟨u,s',b,_,⟨e,(0,0),hO⟩,fun w' hw=>hu w' hw,rel.mono (PH.le.refl _) (fun _ _ h=>by simp at h) _ _ hru,hk, .inl ⟨hh,x, .inr (.inl ⟨_,_,rfl⟩),hx,HB.blk_mem hb, .inl ⟨_,hc,rfl⟩⟩⟩
  ·rename_i esz ms hc
   split at h
   ·rename_i hsl
    rw [Bool.and_eq_true]at hsl
    have ho:=Nat.eq_of_beq_eq_true hsl.2
    subst ho
    obtain⟨hi,hk⟩:=h
    simp only [rel]at hr
    obtain⟨x,b,hx,hb,rfl⟩:=hr
    obtain⟨b',y,A,C,T',hb',hy,he1,he2,hv,hO,hA,hsc⟩:=chunk_mat (g.hp.ok _ _ _ hc hx) hi
    rw [hb]at hb';cases hb'
    refine⟨y.slice, .row hh i,b,A++[y.slice]++C,⟨T',(0,0),hO⟩,fun w' hw'=>?_,by simp only [rel];exact⟨x,y,hx,hy,rfl⟩,hk, .inl ⟨hh,x, .inr (.inl ⟨_,_,rfl⟩),hx,HB.blk_mem hb, .inl ⟨_,hc,rfl⟩⟩⟩
    have hag:aggD d.desc=false:=by
     have:=hsl.1;cases hdd:d.desc<;>simp [hdd,isSl]at this<;>rfl
    have hcell:=cell_seg hw' hA 0 y.slice (by simp)
    have hadd:(⟨b,i,none⟩:Addr).add 0=⟨b,i,none⟩:=by simp [Addr.add]
    rw [hadd]at hcell
    simp only [Instr.loadAt,Instr.sureAddr,pure_bind,loadVar,Sem.run_bind,run_isAgg hT,Result.andThen_ok,hag,he1,Nat.mul_one,Nat.add_zero]
    simp [run_load,hcell]
   ·exact h.elim
  ·rename_i esz rows j cells hc
   obtain⟨hij,h⟩:=h
   subst hij
   obtain⟨s',hs',hk⟩:=need_some h
   have hk:=forceV_ok hk
   simp only [rel]at hr
   obtain⟨x,b,hx,hb,rfl⟩:=hr
   obtain⟨b',A,vs,C,e,hb',hesz,hσ,hO,hsc,hA,hrv⟩:=chunk_opn (g.hp.ok _ _ _ hc hx)
   rw [hb]at hb';cases hb'
   subst hesz
   obtain⟨u,hu,hru⟩:=run_loadVar (P:=E.P) hT (b:=b) (post:=C) hA hrv hs'
   exact⟨u,s',b,_,⟨e,(0,0),hO⟩,fun w' hw=>hu w' hw,hru,hk, .inl ⟨hh,x, .inr (.inl ⟨_,_,rfl⟩),hx,HB.blk_mem hb, .inl ⟨_,hc,rfl⟩⟩⟩
  ·exact h.elim
 ·rename_i hh i j off
  split at h
  ·rename_i esz ms hc
   obtain⟨m,r,hm,hr',h⟩:=h
   obtain⟨s',hs',hk⟩:=need_some h
   have hk:=forceV_ok hk
   simp only [rel]at hr
   obtain⟨x,y,b,hx,hy,hb,rfl⟩:=hr
   have hi:=(List.getElem?_eq_some_iff.1 hm).1
   obtain⟨_,y',_,_,_,_,hy',_,he2,hv,_⟩:=chunk_mat (g.hp.ok _ _ _ hc hx) hi
   rw [hy]at hy';cases hy'
   have hmi:ms[i]=m:=(List.getElem?_eq_some_iff.1 hm).2
   rw [hmi]at hv
   obtain⟨b',A,vs,C,T',hb',hσ,hO,hsc,hA,hrv⟩:=hv.row hr'
   rw [hb]at hb';cases hb'
   subst he2
   obtain⟨u,hu,hru⟩:=run_loadVar (P:=E.P) hT (b:=b) (post:=C) hA hrv hs'
   exact⟨u,s',b,_,⟨T',(0,0),hO⟩,fun w' hw=>hu w' hw,rel.mono (PH.le.refl _) (fun _ _ h=>by simp at h) _ _ hru,hk, .inl ⟨hh,x, .inr (.inr ⟨_,_,_,rfl⟩),hx,HB.inn_mem hy hb, .inl ⟨_,hc,rfl⟩⟩⟩
  ·exact h.elim
 ·rename_i cells
  obtain⟨s',hs',hk⟩:=need_some h
  have hk:=forceV_ok hk
  simp only [rel]at hr
  obtain⟨b,off,vs,rfl,hrv,⟨hscA,A,C,hσ,hA⟩⟩:=hr
  have hB:=g.hp.ph _ _ hσ
  obtain⟨u,hu,hru⟩:=run_loadVar (P:=E.P) hT (b:=b) (post:=C) hA hrv hs'
  exact⟨u,s',b,_,hB,fun w' hw=>by simpa using hu w' hw,rel.mono (PH.le.refl _) (fun _ _ h=>by simp at h) _ _ hru,hk, .inr ⟨⟨_,rfl⟩,_,hσ⟩⟩
 ·exact h.elim
theorem loadS_ok {E:Env} (hE:EnvOK E) {w0 σ0 β0 nt σ β S a w} (g:GG w0 σ0 β0 nt σ β S a w) {T:Nat} {s:SV} {v:Value} {k:SV→Prop} (h:loadS E S T s k) (hr:rel σ β s v):
  ∃u s',(Instr.loadAt T v).run E.P w= .ok u w∧rel σ β s' u∧k s':=by
 obtain⟨u,s',b,cs,hB,hrun,hr,hk,_⟩:=loadS_ok' hE g h hr
 exact⟨u,s',hrun w hB,hr,hk⟩
def storeS (E : Env) (S : SS) (T : Nat) (a v : SV) (k : List Chunk → Prop) : Prop :=
  need (look E.tys T) fun d => need v.cells fun cs =>
    match Nat.beq cs.length d.size with
    | false => False
    | true =>
      match a with
      | .ptr h off => match S.own[h]? with
        | some (.box cells) => match E.free h && Nat.ble (off + d.size) cells.length with
          | true => forceL (spl off cs cells) fun l => forceL (S.own.set h (.box l)) k
          | false => False
        | _ => False
      | .elt h i off => match S.own[h]? with
        | some (.vec esz rows) => match E.free h && closedL cs with
          | true => ∃ r, rows[i]? = some r ∧
            (match Nat.ble (off + d.size) r.length with
             | true => forceL (spl off cs r) fun l => forceL (S.own.set h (.vec esz (rows.set i l))) k
             | false => False)
          | false => False
        | some (.opn esz rows j cells) => match E.free h && Nat.ble (off + d.size) cells.length with
          | true => i = j ∧ forceL (spl off cs cells) fun l => forceL (S.own.set h (.opn esz rows j l)) k
          | false => False
        | _ => False
      | .elt2 h i j off => match S.own[h]? with
        | some (.mat esz ms) => match E.free h && closedL cs with
          | true => ∃ m r, ms[i]? = some m ∧ m[j]? = some r ∧
            (match Nat.ble (off + d.size) r.length with
             | true => forceL (spl off cs r) fun l => forceL (S.own.set h (.mat esz (ms.set i (m.set j l)))) k
             | false => False)
          | false => False
        | _ => False
      | _ => False
theorem VecOK.store {P:Program} {w:World} {σ:PH} {esz:Nat} {rows:List (List SV)} {blk:Option Nat} {len cap:Nat} (h:VecOK w σ esz rows blk len cap) {i:Nat} {r:List SV} (hi:rows[i]? =some r)
  {T:Nat} {d:TyD} (hT:TyOK P T d) {cs:List SV} {vv:Value} {off:Nat} (hvr:relL σ [] cs vv.cells.toList) (hvs:∀u∈vv.cells.toList,scalar u=true) (hlen:cs.length=d.size) (hle:off+d.size≤r.length):
  ∃b o,blk=some b∧(Instr.storeAt T (.pointer (some ⟨b,i*esz+off,none⟩)) vv).run P w= .ok () (put w b o)∧VecOK (put w b o) σ esz (rows.set i (spl off cs r)) blk len cap:=by
 obtain⟨h2,h3,h4⟩:=h
 rcases h4 with⟨_,rfl,_⟩|⟨b,vss,rest,hb,hσ,⟨hsc,e,hO⟩,hrr,hcap,hcl2⟩
 ·simp at hi
 obtain⟨vs,hvs',hrv⟩:=relLL_get hrr hi
 have hrowsv:=relLL_rows hrr h3
 obtain⟨ef,hl⟩:=flat_split hrowsv hvs'
 obtain⟨vs',hrun,hr2,hl2,hm2⟩:=run_storeVar (P:=P) hT (w:=w) (b:=b) (e:=e) (pre:=(vss.take i).flatten) (post:=(vss.drop (i+1)).flatten ++rest)
  (by rw [hO,ef];simp [List.append_assoc]) hl hrv hvr hvs hlen hle
 have hilt:i<vss.length:=by
  rcases Nat.lt_or_ge i vss.length with h'|h'
  ·exact h'
  ·rw [List.getElem?_eq_none h']at hvs';cases hvs'
 have hset:(vss.set i vs').flatten =(vss.take i).flatten ++vs'++(vss.drop (i+1)).flatten :=by
  rw [List.set_eq_take_append_cons_drop,if_pos hilt];simp
 have hspl:(spl off cs r).length =r.length:=by
  have:=relL_length hr2;rw [hl2,relL_length hrv]at this;exact this.symm
 refine⟨b,_,hb,hrun,by simpa using h2,?_, .inr ⟨b,vss.set i vs',rest,hb,hσ,⟨?_,e,?_⟩,relLL_set hrr hr2,by simpa using hcap,?_⟩⟩
 ·intro q hq
  rcases List.mem_or_eq_of_mem_set hq with hq|rfl
  ·exact h3 q hq
  ·rw [hspl];exact h3 r (List.mem_of_getElem? hi)
 ·intro u hu
  rw [hset]at hu
  simp only [List.mem_append]at hu
  rcases hu with((hu|hu)|hu)|hu
  ·exact hsc u (by rw [ef];simp [hu])
  ·rcases hm2 u hu with h|h
   ·exact hsc u (by rw [ef];simp [h])
   ·exact h
  ·exact hsc u (by rw [ef];simp [hu])
  ·exact hsc u (by simp [hu])
 ·rw [put_get_same (lt_of_get hO),hset];simp [List.append_assoc]
 ·rw [hset];rw [ef]at hcl2;simp only [List.length_append]at hcl2⊢;omega
theorem nodup_blks {x:HB} (h:x.blks.Nodup) {i j:Nat} {y z:HI} {b:Nat} (hy:x.inn[i]? =some y) (hz:x.inn[j]? =some z) (hb:y.blk=some b) (hb':z.blk=some b):i=j:=by
 have h:=(List.nodup_append.1 h).2.1
 have:∀(l:List HI) (i j:Nat),(l.filterMap (·.blk)).Nodup →l[i]? =some y→l[j]? =some z→i=j:=by
  intro l
  induction l with
  |nil=>intro i j _ h1;simp at h1
  |cons u l ih=>
   intro i j hn h1 h2
   have tl:(l.filterMap (·.blk)).Nodup :=by
    simp only [List.filterMap_cons]at hn;split at hn
    ·exact hn
    ·exact(List.nodup_cons.1 hn).2
   have nin:∀(k:Nat) (v:HI),l[k]? =some v→v.blk=some b→u.blk=some b→False:=by
    intro k v hk hv hu
    simp only [List.filterMap_cons,hu,List.nodup_cons]at hn
    exact hn.1 (List.mem_filterMap.2 ⟨v,List.mem_of_getElem? hk,hv⟩)
   cases i with
   |zero=>cases j with
    |zero=>rfl
    |succ j=>simp at h1 h2;subst h1;exact(nin j z h2 hb' hb).elim
   |succ i=>cases j with
    |zero=>simp at h1 h2;subst h2;exact(nin i y h1 hb hb').elim
    |succ j=>simp at h1 h2;rw [ih i j tl h1 h2]
 exact this x.inn i j h hy hz
theorem nodup_outer {x:HB} (h:x.blks.Nodup) {j:Nat} {z:HI} {b:Nat} (hb:x.blk=some b) (hz:x.inn[j]? =some z) (hb':z.blk=some b):False:=by
 have h:=(List.nodup_append.1 h).2.2 b (by simp [hb]) b (List.mem_filterMap.2 ⟨z,List.mem_of_getElem? hz,hb'⟩)
 exact h rfl
theorem storeS_ok {E:Env} (hE:EnvOK E) {w0 σ0 β0 nt σ β S a w} (g:GG w0 σ0 β0 nt σ β S a w) (hfx:E.free=nt.free) {T:Nat} {sa sv:SV} {va vv:Value} {k:List Chunk→Prop} (h:storeS E S T sa sv k) (ha:rel σ β sa va) (hv:rel σ β sv vv):
  ∃w' own',(Instr.storeAt T va vv).run E.P w= .ok () w'∧GG w0 σ0 β0 nt σ β ⟨S.tm,own'⟩ a w'∧k own':=by
 obtain⟨d,hd,hq1⟩:=need_some h
 clear h
 obtain⟨cs,hcs,h⟩:=need_some hq1
 clear hq1
 have hT:=look_ok hE hd
 obtain⟨hvr,hvs⟩:=cells_ok hcs hv
 split at h
 ·exact h.elim
 rename_i hlen
 have hlen:=Nat.eq_of_beq_eq_true hlen
 split at h
 ·rename_i hh off
  split at h
  ·rename_i cells hc
   split at h
   ·rename_i hle
    rw [Bool.and_eq_true,hfx]at hle
    have hfree:=hle.1
    have hle:=Nat.le_of_ble_eq_true hle.2
    simp only [forceL_eq]at h
    simp only [rel]at ha
    obtain⟨x,b,hx,hb,rfl⟩:=ha
    obtain⟨b',vs,hb',hσ,⟨hsc,e,hO⟩,hcr⟩:=g.hp.ok _ _ _ hc hx
    rw [hb]at hb';cases hb'
    obtain⟨vs',hrun,hr',hl',hm'⟩:=run_storeVar (P:=E.P) hT (base:=0) (pre:=[]) (post:=[]) (w:=w) (b:=b) (e:=e) (by simpa using hO) rfl hcr hvr hvs hlen hle
    simp only [List.nil_append,List.append_nil,Nat.zero_add]at hrun
    refine⟨_,S.own.set hh (.box (spl off cs cells)),hrun,⟨g.tm,g.sz,g.df,g.hp.write hx (HB.blk_mem hb) hc rfl ?_,g.fr.write hx (HB.blk_mem hb),g.pn.put (g.pn.fr _ x b hx (.inl hfree) (HB.blk_mem hb))⟩,h⟩
    refine⟨b,vs',hb,hσ,⟨?_,e,put_get_same (lt_of_get hO)⟩,hr'⟩
    intro u hu;rcases hm' u hu with h|h
    ·exact hsc u h
    ·exact h
   ·exact h.elim
  ·exact h.elim
 ·rename_i hh i off
  split at h
  ·rename_i esz rows hc
   split at h
   ·rename_i hcl
    rw [Bool.and_eq_true,hfx]at hcl
    have hfree:=hcl.1
    have hcl:=hcl.2
    obtain⟨r,hr',h⟩:=h
    split at h
    ·rename_i hle
     have hle:=Nat.le_of_ble_eq_true hle
     simp only [forceL_eq]at h
     simp only [rel]at ha
     obtain⟨x,b,hx,hb,rfl⟩:=ha
     have hck:=g.hp.ok _ _ _ hc hx
     obtain⟨h1,hv1⟩:=hck
     subst h1
     obtain⟨b',o,hb',hrun,hv2⟩:=VecOK.store (P:=E.P) hv1 hr' hT (relL_closed _ _ hcl hvr) hvs hlen hle
     rw [hb]at hb';cases hb'
     exact⟨_,S.own.set hh (.vec x.esz (rows.set i (spl off cs r))),hrun,⟨g.tm,g.sz,g.df,g.hp.write hx (HB.blk_mem hb) hc rfl ⟨rfl,hv2⟩,g.fr.write hx (HB.blk_mem hb),g.pn.put (g.pn.fr _ x b hx (.inl hfree) (HB.blk_mem hb))⟩,h⟩
    ·exact h.elim
   ·exact h.elim
  ·rename_i esz rows j cells hc
   split at h
   ·rename_i hcl
    rw [Bool.and_eq_true,hfx]at hcl
    have hfree:=hcl.1
    have hle:=Nat.le_of_ble_eq_true hcl.2
    obtain⟨hij,h⟩:=h
    subst hij
    simp only [forceL_eq]at h
    simp only [rel]at ha
    obtain⟨x,b,hx,hb,rfl⟩:=ha
    obtain⟨h1,h2,h3,h4,h5,b',vss,vs,rest,hb',hσ,⟨hsc,e,hO⟩,hrr,hcr,hcap,hll⟩:=g.hp.ok _ _ _ hc hx
    rw [hb]at hb';cases hb'
    subst h1
    have hil:i<vss.length:=by rw [relLL_length hrr];exact h4
    obtain⟨vs',hrun,hr',hl',hm'⟩:=run_storeVar (P:=E.P) hT (w:=w) (b:=b) (e:=e) (pre:=(vss.take i).flatten) (post:=(vss.drop (i+1)).flatten ++rest)
     (by rw [hO,set_flat hil];simp [List.append_assoc]) (take_len (relLL_rows hrr h3) hil) hcr hvr hvs hlen hle
    refine⟨_,S.own.set hh (.opn x.esz rows i (spl off cs cells)),hrun,⟨g.tm,g.sz,g.df,g.hp.write hx (HB.blk_mem hb) hc rfl ?_,g.fr.write hx (HB.blk_mem hb),g.pn.put (g.pn.fr _ x b hx (.inl hfree) (HB.blk_mem hb))⟩,h⟩
    have hspl:(spl off cs cells).length =cells.length:=by
     have:=relL_length hr';rw [hl',relL_length hcr]at this;exact this.symm
    refine⟨rfl,h2,h3,h4,by rw [hspl];exact h5,b,vss,vs',rest,hb,hσ,⟨?_,e,?_⟩,hrr,hr',hcap,hll⟩
    ·intro u hu
     rw [set_flat hil]at hu
     rw [set_flat hil]at hsc
     simp only [List.mem_append]at hu
     rcases hu with((hu|hu)|hu)|hu
     ·exact hsc u (by simp [hu])
     ·rcases hm' u hu with h|h
      ·exact hsc u (by simp [h])
      ·exact h
     ·exact hsc u (by simp [hu])
     ·exact hsc u (by simp [hu])
    ·rw [put_get_same (lt_of_get hO),set_flat hil];simp [List.append_assoc]
   ·exact h.elim
  ·exact h.elim
 ·rename_i hh i j off
  split at h
  ·rename_i esz ms hc
   split at h
   ·rename_i hcl
    rw [Bool.and_eq_true,hfx]at hcl
    have hfree:=hcl.1
    have hcl:=hcl.2
    obtain⟨m,r,hm,hr',h⟩:=h
    split at h
    ·rename_i hle
     have hle:=Nat.le_of_ble_eq_true hle
     simp only [forceL_eq]at h
     simp only [rel]at ha
     obtain⟨x,y,b,hx,hy,hb,rfl⟩:=ha
     have hck:=g.hp.ok _ _ _ hc hx
     obtain⟨h1,h2,h3,h4,h5,h6⟩:=hck
     obtain⟨he,hv1⟩:=h5 i y m hy hm
     subst he
     obtain⟨b',o,hb',hrun,hv2⟩:=VecOK.store (P:=E.P) hv1 hr' hT (relL_closed _ _ hcl hvr) hvs hlen hle
     rw [hb]at hb';cases hb'
     refine⟨_,S.own.set hh (.mat y.esz (ms.set i (m.set j (spl off cs r)))),hrun,⟨g.tm,g.sz,g.df,g.hp.write hx (HB.inn_mem hy hb) hc rfl ⟨h1,by simpa using h2,h3,by simpa using h4,?_,?_⟩,g.fr.write hx (HB.inn_mem hy hb),g.pn.put (g.pn.fr _ x b hx (.inl hfree) (HB.inn_mem hy hb))⟩,h⟩
     ·intro q z m' hz hm'
      by_cases hqi:i=q
      ·subst hqi
       rw [hy]at hz;cases hz
       rw [List.getElem?_set_self (List.getElem?_eq_some_iff.1 hm).1]at hm';cases hm'
       exact⟨rfl,hv2⟩
      ·rw [List.getElem?_set_ne hqi]at hm'
       obtain⟨q1,q2⟩:=h5 q z m' hz hm'
       refine⟨q1,q2.step (PH.le.refl _) (fun _ _ h=>h) (fun b' hb'=>put_get_ne ?_)⟩
       rintro rfl
       exact hqi (nodup_blks h3 hy hz hb hb')
     ·rcases h6 with⟨_,rfl,_⟩|⟨b',rest,hb',hσ',hO,hc1,hl⟩
      ·simp at hm
      ·refine .inr ⟨b',rest,hb',hσ',hO.step (put_get_ne ?_),by simpa using hc1,by simpa using hl⟩
       rintro rfl
       exact nodup_outer h3 hb' hy hb
    ·exact h.elim
   ·exact h.elim
  ·exact h.elim
 ·exact h.elim
def killL:List Nat→List Chunk→List Chunk
 |[],own=>own
 |h::hs,own=>killL hs (own.set h .dead)
theorem killL_len:∀(hs:List Nat) (own:List Chunk),(killL hs own).length =own.length
 |[],_=>rfl
 |h::hs,own=>by simp [killL,killL_len hs]
theorem killL_at:∀(hs:List Nat) (own:List Chunk) (i:Nat) (d:Chunk),(killL hs own)[i]? =some d→(i∈hs∧d= .dead)∨(i∉hs∧own[i]? =some d)
 |[],own,i,d,h=> .inr ⟨by simp,h⟩
 |h::hs,own,i,d,hk=>by
  simp only [killL]at hk
  rcases killL_at hs _ i d hk with⟨h1,h2⟩|⟨h1,h2⟩
  ·exact .inl ⟨by simp [h1],h2⟩
  ·by_cases e:h=i
   ·subst e
    have hl:h<own.length:=by
     rcases Nat.lt_or_ge h own.length with q|q
     ·exact q
     ·rw [List.getElem?_eq_none (by simpa using q)]at h2;cases h2
    rw [List.getElem?_set_self hl]at h2;cases h2
    exact .inl ⟨by simp,rfl⟩
   ·rw [List.getElem?_set_ne e]at h2
    exact .inr ⟨by simp [Ne.symm e,h1],h2⟩
def ofHs (β:List HB) (hs:List Nat) (b:Nat):Prop:=∃h∈hs,∃x,β[h]? =some x∧b∈x.blks
theorem GG.succL {w0 σ0 β0 nt σ β S a w} (g:GG w0 σ0 β0 nt σ β S a w) {hs:List Nat} {x':HB} {c:Chunk} {w':World}
  (hlive:∀h∈hs,nt.free h=true∧∃c,S.own[h]? =some c∧live c=true)
  (hsz:w.heap.size≤w'.heap.size) (hst:w'.os=w.os∧w'.tape=w.tape∧w'.output=w.output)
  (hkeep:∀b,b<w.heap.size→¬ofHs β hs b→w'.heap[b]? =w.heap[b]?)
  (hblk:∀b,b∈x'.blks→ofHs β hs b∨(w.heap.size≤b∧b<w'.heap.size))
  (hc:chunkOK w' σ (β++[x']) c x') (hdr:w.drawn≤w'.drawn:=by first|exact Nat.le_refl _|exact Nat.le_succ _):
  GG w0 σ0 β0 nt σ (β++[x']) ⟨S.tm,killL hs S.own++[c]⟩ a w':=by
 have hlen:=g.hp.len
 have hle:HB.le β (β++[x']):=HB.le_append _ _
 have hold:∀(i:Nat) (d:Chunk),i<β.length→(killL hs S.own++[c])[i]? =some d→(i∈hs∧d= .dead)∨(i∉hs∧S.own[i]? =some d):=by
  intro i d hi hd
  rw [List.getElem?_append_left (by rw [killL_len];omega)]at hd
  exact killL_at hs S.own i d hd
 have hof:∀b,ofHs β hs b→b<w.heap.size∧σ b=none∧nt.pin b=none:=by
  rintro b ⟨h,hh,x,hx,hb⟩
  obtain⟨hf,c,hc,hl⟩:=hlive h hh
  exact⟨g.hp.lt h x b hx hb,g.hp.psn h c x b hc hl hx hb,g.pn.fr h x b hx (.inl hf) hb⟩
 have hnot:∀(i:Nat) (d:Chunk) (y:HB) (b:Nat),i∉hs→S.own[i]? =some d→live d=true→β[i]? =some y→b∈y.blks→¬ofHs β hs b:=by
  rintro i d y b hi hd hl hy hb ⟨h,hh,x,hx,hbx⟩
  obtain⟨_,c,hc,hlc⟩:=hlive h hh
  have:=g.hp.apart i h d c y x b hd hc hl hlc hy hx hb hbx
  subst this;exact hi hh
 have cross:∀(i:Nat) (d:Chunk) (y:HB) (b:Nat),i<β.length→(killL hs S.own++[c])[i]? =some d→live d=true→β[i]? =some y→b∈y.blks→b∈x'.blks→False:=by
  intro i d y b hi hd hl hy hb hb'
  rcases hold i d hi hd with⟨_,rfl⟩|⟨hih,hd⟩
  ·cases hl
  ·rcases hblk b hb' with e|⟨e,_⟩
   ·exact hnot i d y b hih hd hl hy hb e
   ·have:=g.hp.lt i y _ hy hb;omega
 refine⟨g.tm.mono (PH.le.refl _) hle,g.sz,g.df,⟨?_,?_,?_,?_,?_,?_⟩,⟨?_,?_,?_,?_,?_,g.fr.le,g.fr.new,?_,?_⟩,?_⟩
 ·intro b cs hb
  obtain⟨T,fz,e⟩:=g.hp.ph b cs hb
  refine⟨T,fz,?_⟩
  rw [hkeep b (lt_of_get e) (fun h=>by rw [(hof b h).2.1]at hb;cases hb)];exact e
 ·simp [hlen,killL_len]
 ·intro i ch y hch hy
  rcases getElem?_snoc hy with⟨h3,h4⟩|⟨h3,rfl⟩
  ·rcases hold i ch h3 hch with⟨_,rfl⟩|⟨hih,hd⟩
   ·trivial
   ·exact chunkOK.step (PH.le.refl _) hle (g.hp.ok i ch y hd h4) (fun _ _ _ h=>h) (fun hl b hb=>hkeep b (g.hp.lt i y b h4 hb) (hnot i ch y b hih hd hl h4 hb))
  ·subst h3
   rw [List.getElem?_append_right (by rw [killL_len];omega)]at hch
   simp [hlen,killL_len]at hch
   subst hch;exact hc
 ·intro i y b hy hb
  rcases getElem?_snoc hy with⟨h3,h4⟩|⟨h3,rfl⟩
  ·have:=g.hp.lt i y b h4 hb;omega
  ·rcases hblk b hb with e|⟨_,e⟩
   ·have:=(hof b e).1;omega
   ·exact e
 ·intro i j d d' y z b hd hd' hl hl' hy hz hb hb'
  rcases getElem?_snoc hy with⟨h3,h4⟩|⟨h3,rfl⟩
  ·rcases getElem?_snoc hz with⟨h5,h6⟩|⟨h5,rfl⟩
   ·rcases hold i d h3 hd with⟨_,rfl⟩|⟨_,hd⟩
    ·cases hl
    ·rcases hold j d' h5 hd' with⟨_,rfl⟩|⟨_,hd'⟩
     ·cases hl'
     ·exact g.hp.apart i j d d' y z b hd hd' hl hl' h4 h6 hb hb'
   ·exact(cross i d y b h3 hd hl h4 hb hb').elim
  ·rcases getElem?_snoc hz with⟨h5,h6⟩|⟨h5,rfl⟩
   ·exact(cross j d' z b h5 hd' hl' h6 hb' hb).elim
   ·omega
 ·intro i d y b hd hl hy hb
  rcases getElem?_snoc hy with⟨h3,h4⟩|⟨h3,rfl⟩
  ·rcases hold i d h3 hd with⟨_,rfl⟩|⟨_,hd⟩
   ·cases hl
   ·exact g.hp.psn i d y b hd hl h4 hb
  ·rcases hblk b hb with e|⟨e,_⟩
   ·exact(hof b e).2.1
   ·exact g.hp.no e
 ·exact hst.1.trans g.fr.os
 ·exact hst.2.1.trans g.fr.tape
 ·exact⟨hst.2.2.trans g.fr.output.1,Nat.le_trans g.fr.output.2 hdr⟩
 ·have:=g.fr.size;omega
 ·intro b hb hn
  rw [hkeep b (by have:=g.fr.size;omega) ?_]
  ·exact g.fr.block b hb hn
  ·rintro⟨h,hh,x,hx,hbx⟩
   rcases g.fr.fresh h x b hx hbx with e|e
   ·omega
   ·exact hn e
 ·exact g.fr.pre.trans hle
 ·intro i y b hy hb
  rcases getElem?_snoc hy with⟨h3,h4⟩|⟨h3,rfl⟩
  ·exact g.fr.fresh i y b h4 hb
  ·rcases hblk b hb with⟨h,hh,x,hx,hbx⟩|⟨e,_⟩
   ·exact g.fr.fresh h x b hx hbx
   ·exact .inl (by have:=g.fr.size;omega)
 ·refine g.pn.step (fun b o hb hb'=>?_) (fun i y b hi hf hb=>?_)
  ·rw [hkeep b (lt_of_get hb') (fun h=>by rw [(hof b h).2.2]at hb;cases hb)];exact hb'
  ·rcases getElem?_snoc hi with⟨_,h4⟩|⟨_,rfl⟩
   ·exact .inl h4
   ·right
    rcases hblk b hb with e|⟨e,_⟩
    ·exact(hof b e).2.2
    ·exact g.pn.new e
mutual
def rp (h n:Nat):SV→SV
 |.vec k=>match Nat.beq k h with|true=> .vec n|false=> .vec k
 |.elt k i o=>match Nat.beq k h with|true=> .elt n i o|false=> .elt k i o
 |.row k i=>match Nat.beq k h with|true=> .any |false=> .row k i
 |.elt2 k i j o=>match Nat.beq k h with|true=> .any |false=> .elt2 k i j o
 |.agg l=> .agg (rpL h n l)
 |.tup l=> .tup (rpL h n l)
 |.fn f l=> .fn f (rpL h n l)
 |.fnb f l=> .fnb f (rpL h n l)
 |s=>s
def rpL (h n:Nat):List SV→List SV
 |[]=>[]
 |s::l=>rp h n s::rpL h n l
end
def rpT (h n:Nat):List (Nat×SV)→List (Nat×SV)
 |[]=>[]
 |(t,s)::l=>(t,rp h n s)::rpT h n l
def rpO (h n:Nat):List Chunk→List Chunk
 |[]=>[]
 |.box l::r=> .box (rpL h n l)::rpO h n r
 |.opn e q i l::r=> .opn e q i (rpL h n l)::rpO h n r
 |c::r=>c::rpO h n r
mutual
theorem rel_rp {σ} {β:List HB} {h n:Nat} {x y:HB} (hx:β[h]? =some x) (hy:β[n]? =some y) (hs:x.slice=y.slice) (hb:x.blk=y.blk) (he:x.esz=y.esz):∀(s:SV) (v:Value),rel σ β s v→rel σ β (rp h n s) v
 |.vec k,v,hr=>by
  simp only [rp];split
  ·rename_i e;have:=Nat.eq_of_beq_eq_true e;subst this
   simp only [rel]at*;obtain⟨z,hz,e⟩:=hr;rw [hx]at hz;cases hz;exact⟨y,hy,by rw [e,hs]⟩
  ·exact hr
 |.elt k i o,v,hr=>by
  simp only [rp];split
  ·rename_i e;have:=Nat.eq_of_beq_eq_true e;subst this
   simp only [rel]at*;obtain⟨z,b,hz,hzb,e⟩:=hr;rw [hx]at hz;cases hz;exact⟨y,b,hy,by rw [←hb];exact hzb,by rw [e,he]⟩
  ·exact hr
 |.row k i,v,hr=>by
  simp only [rp];split
  ·simp [rel]
  ·exact hr
 |.elt2 k i j o,v,hr=>by
  simp only [rp];split
  ·simp [rel]
  ·exact hr
 |.agg l,v,hr=>by simp only [rel,rp]at*;obtain⟨vs,e,hr⟩:=hr;exact⟨vs,e,relL_rp hx hy hs hb he l vs hr⟩
 |.tup l,v,hr=>by simp only [rel,rp]at*;obtain⟨vs,e,hr⟩:=hr;exact⟨vs,e,relL_rp hx hy hs hb he l vs hr⟩
 |.fn f l,v,hr=>by simp only [rel,rp]at*;obtain⟨vs,e,hr⟩:=hr;exact⟨vs,e,relL_rp hx hy hs hb he l vs hr⟩
 |.fnb f l,v,hr=>by simp only [rel,rp]at*;obtain⟨vs,e,hr⟩:=hr;exact⟨vs,e,relL_rp hx hy hs hb he l vs hr⟩
 |.any,_,_=>by simp [rel,rp]
 |.num _ _,_,h| .bp _,_,h| .bl _,_,h| .str _,_,h| .nil,_,h| .psl _ _,_,h| .ful _ _,_,h| .mp _,_,h| .ptr _ _,_,h| .pptr _,_,h| .raw _,_,h| .ifc _ _,_,h| .shut _,_,h=>by simpa only [rp]using h
theorem relL_rp {σ} {β:List HB} {h n:Nat} {x y:HB} (hx:β[h]? =some x) (hy:β[n]? =some y) (hs:x.slice=y.slice) (hb:x.blk=y.blk) (he:x.esz=y.esz):∀(l:List SV) (vs:List Value),relL σ β l vs→relL σ β (rpL h n l) vs
 |[],vs,h=>by simpa only [relL,rpL]using h
 |s::l,vs,hr=>by
  simp only [relL,rpL]at*
  obtain⟨v,vs',e,h1,h2⟩:=hr
  exact⟨v,vs',e,rel_rp hx hy hs hb he s v h1,relL_rp hx hy hs hb he l vs' h2⟩
end
theorem rpT_look (h n:Nat):∀(l:List (Nat×SV)) (t:Nat),tlook (rpT h n l) t=rp h n (tlook l t)
 |[],t=>by simp [rpT,tlook,rp]
 |(k,s)::l,t=>by
  simp only [rpT,tlook];split
  ·rfl
  ·exact rpT_look h n l t
theorem rpO_len (h n:Nat):∀(l:List Chunk),(rpO h n l).length =l.length
 |[]=>rfl
 |c::l=>by cases c<;>simp [rpO,rpO_len h n l]
def rpC (h n:Nat):Chunk→Chunk
 |.box l=> .box (rpL h n l)
 |.opn e q i l=> .opn e q i (rpL h n l)
 |c=>c
theorem rpO_at (h n:Nat):∀(l:List Chunk) (i:Nat),(rpO h n l)[i]? =(l[i]?).map (rpC h n)
 |[],i=>by simp [rpO]
 |c::l,0=>by cases c<;>simp [rpO,rpC]
 |c::l,i+1=>by cases c<;>simp [rpO,rpO_at h n l i]
theorem live_rpC {h n:Nat} {c:Chunk}:live (rpC h n c)=live c:=by cases c<;>rfl
theorem GG.point {w0 σ0 β0 nt σ β S a w} (g:GG w0 σ0 β0 nt σ β S a w) {h n:Nat} {x y:HB} (hx:β[h]? =some x) (hy:β[n]? =some y) (hs:x.slice=y.slice) (hb:x.blk=y.blk) (he:x.esz=y.esz):
  GG w0 σ0 β0 nt σ β ⟨rpT h n S.tm,rpO h n S.own⟩ a w:=by
 have key:∀(i:Nat) (d:Chunk),(rpO h n S.own)[i]? =some d→∃c,S.own[i]? =some c∧d=rpC h n c:=by
  intro i d hd
  rw [rpO_at]at hd
  cases hc:S.own[i]? with
  |none=>rw [hc]at hd;cases hd
  |some c=>rw [hc]at hd;cases hd;exact⟨c,rfl,rfl⟩
 refine⟨fun t=>?_,g.sz,g.df,⟨g.hp.ph,by simp [g.hp.len,rpO_len],?_,g.hp.lt,?_,?_⟩,g.fr,g.pn⟩
 ·simp only [rpT_look];exact rel_rp hx hy hs hb he _ _ (g.tm t)
 ·intro i d z hd hz
  obtain⟨c,hc,rfl⟩:=key i d hd
  have hck:=g.hp.ok i c z hc hz
  cases c with
  |box l=>
   obtain⟨b,vs,e,hσ,hO,hr⟩:=hck
   exact⟨b,vs,e,hσ,hO,relL_rp hx hy hs hb he _ _ hr⟩
  |opn e q j l=>
   obtain⟨h1,h2,h3,h4,h5,b,vss,vs,rest,e,hσ,hO,hr,hc,hcap,hl⟩:=hck
   exact⟨h1,h2,h3,h4,by rw [←relL_length (relL_rp hx hy hs hb he _ _ hc),relL_length hc];exact h5,b,vss,vs,rest,e,hσ,hO,hr,relL_rp hx hy hs hb he _ _ hc,hcap,hl⟩
  |_=>exact hck
 ·intro i j d d' y z b hd hd' hl hl' hy hz hb hb'
  obtain⟨c,hc,rfl⟩:=key i d hd
  obtain⟨c',hc',rfl⟩:=key j d' hd'
  rw [live_rpC]at hl hl'
  exact g.hp.apart i j c c' y z b hc hc' hl hl' hy hz hb hb'
 ·intro i d y b hd hl hy hb
  obtain⟨c,hc,rfl⟩:=key i d hd
  rw [live_rpC]at hl
  exact g.hp.psn i c y b hc hl hy hb
theorem snoc2 {α:Type} {l:List α} {a b:α} {i:Nat} {y:α} (h:(l++[a,b])[i]? =some y):(i<l.length∧l[i]? =some y)∨(i=l.length∧y=a)∨(i=l.length+1∧y=b):=by
 rw [show l++[a,b]=(l++[a])++[b]by simp]at h
 rcases getElem?_snoc h with⟨_,h⟩|⟨h1,h2⟩
 ·rcases getElem?_snoc h with h|h
  ·exact .inl h
  ·exact .inr (.inl h)
 ·exact .inr (.inr ⟨by simpa using h1,h2⟩)
theorem GG.split {w0 σ0 β0 nt σ β S a w} (g:GG w0 σ0 β0 nt σ β S a w) {h:Nat} {x x1 x2:HB} {c c1 c2:Chunk} (hx:β[h]? =some x) (hc:S.own[h]? =some c) (hl:live c=true) (hf:nt.free h=true)
  (h1:∀b,b∈x1.blks→b∈x.blks) (h2:∀b,b∈x2.blks→b∈x.blks) (hd:∀b,b∈x1.blks→b∈x2.blks→False)
  (k1:chunkOK w σ (β++[x1,x2]) c1 x1) (k2:chunkOK w σ (β++[x1,x2]) c2 x2):
  GG w0 σ0 β0 nt σ (β++[x1,x2]) ⟨S.tm,S.own.set h .dead ++[c1,c2]⟩ a w:=by
 have hlen:=g.hp.len
 have hle:HB.le β (β++[x1,x2]):=HB.le_append _ _
 have hsl:(S.own.set h Chunk.dead).length =β.length:=by simp [hlen]
 have hold:∀(i:Nat) (d:Chunk),i<β.length→(S.own.set h .dead ++[c1,c2])[i]? =some d→live d=true→i≠h∧S.own[i]? =some d:=by
  intro i d hi hd' hld
  rw [List.getElem?_append_left (by omega),List.getElem?_set]at hd'
  split at hd'
  ·split at hd'
   ·cases hd';cases hld
   ·cases hd'
  ·exact⟨fun e=>absurd e.symm (by assumption),hd'⟩
 have hat:∀(i:Nat) (d:Chunk) (y:HB),(S.own.set h .dead ++[c1,c2])[i]? =some d→(β++[x1,x2])[i]? =some y→(i<β.length∧β[i]? =some y)∨(i=β.length∧y=x1∧d=c1)∨(i=β.length+1∧y=x2∧d=c2):=by
  intro i d y hd' hy
  rcases snoc2 hy with h3|⟨h3,rfl⟩|⟨h3,rfl⟩
  ·exact .inl h3
  ·refine .inr (.inl ⟨h3,rfl,?_⟩)
   rcases snoc2 hd' with⟨h4,_⟩|⟨_,h4⟩|⟨h4,_⟩
   ·omega
   ·exact h4
   ·omega
  ·refine .inr (.inr ⟨h3,rfl,?_⟩)
   rcases snoc2 hd' with⟨h4,_⟩|⟨h4,_⟩|⟨_,h4⟩
   ·omega
   ·omega
   ·exact h4
 have hin:∀(i:Nat) (d:Chunk) (y:HB) (b:Nat),i<β.length→(S.own.set h .dead ++[c1,c2])[i]? =some d→live d=true→β[i]? =some y→b∈y.blks→b∈x.blks→False:=by
  intro i d y b hi hd' hld hy hb hbx
  obtain⟨n1,n2⟩:=hold i d hi hd' hld
  exact n1 (g.hp.apart i h d c y x b n2 hc hld hl hy hx hb hbx)
 refine⟨g.tm.mono (PH.le.refl _) hle,g.sz,g.df,⟨g.hp.ph,by simp [hlen],?_,?_,?_,?_⟩,⟨g.fr.os,g.fr.tape,g.fr.output,g.fr.size,g.fr.block,g.fr.le,g.fr.new,g.fr.pre.trans hle,?_⟩,?_⟩
 ·intro i ch y hch hy
  rcases hat i ch y hch hy with⟨h3,h4⟩|⟨h3,rfl,rfl⟩|⟨h3,rfl,rfl⟩
  ·rw [List.getElem?_append_left (by omega),List.getElem?_set]at hch
   split at hch
   ·split at hch
    ·cases hch;trivial
    ·cases hch
   ·exact chunkOK.step (PH.le.refl _) hle (g.hp.ok i ch y hch h4) (fun _ _ _ h=>h) (fun _ _ _=>rfl)
  ·exact k1
  ·exact k2
 ·intro i y b hy hb
  rcases snoc2 hy with⟨_,h4⟩|⟨_,rfl⟩|⟨_,rfl⟩
  ·exact g.hp.lt i y b h4 hb
  ·exact g.hp.lt h x b hx (h1 b hb)
  ·exact g.hp.lt h x b hx (h2 b hb)
 ·intro i j d d' y z b hd1 hd2 hl1 hl2 hy hz hb hb'
  rcases hat i d y hd1 hy with⟨h3,h4⟩|⟨h3,rfl,rfl⟩|⟨h3,rfl,rfl⟩<;>rcases hat j d' z hd2 hz with⟨h5,h6⟩|⟨h5,rfl,rfl⟩|⟨h5,rfl,rfl⟩
  ·exact g.hp.apart i j d d' y z b (hold i d h3 hd1 hl1).2 (hold j d' h5 hd2 hl2).2 hl1 hl2 h4 h6 hb hb'
  ·exact(hin i d y b h3 hd1 hl1 h4 hb (h1 b hb')).elim
  ·exact(hin i d y b h3 hd1 hl1 h4 hb (h2 b hb')).elim
  ·exact(hin j d' z b h5 hd2 hl2 h6 hb' (h1 b hb)).elim
  ·omega
  ·exact(hd b hb hb').elim
  ·exact(hin j d' z b h5 hd2 hl2 h6 hb' (h2 b hb)).elim
  ·exact(hd b hb' hb).elim
  ·omega
 ·intro i d y b hd1 hl1 hy hb
  rcases hat i d y hd1 hy with⟨h3,h4⟩|⟨h3,rfl,rfl⟩|⟨h3,rfl,rfl⟩
  ·exact g.hp.psn i d y b (hold i d h3 hd1 hl1).2 hl1 h4 hb
  ·exact g.hp.psn h c x b hc hl hx (h1 b hb)
  ·exact g.hp.psn h c x b hc hl hx (h2 b hb)
 ·intro i y b hy hb
  rcases snoc2 hy with⟨_,h4⟩|⟨_,rfl⟩|⟨_,rfl⟩
  ·exact g.fr.fresh i y b h4 hb
  ·exact g.fr.fresh h x b hx (h1 b hb)
  ·exact g.fr.fresh h x b hx (h2 b hb)
 ·refine g.pn.step (fun b o _ hb'=>hb') (fun i y b hi _ hb=>?_)
  rcases snoc2 hi with⟨_,h4⟩|⟨_,rfl⟩|⟨_,rfl⟩
  ·exact .inl h4
  ·exact .inr (g.pn.fr h x b hx (.inl hf) (h1 b hb))
  ·exact .inr (g.pn.fr h x b hx (.inl hf) (h2 b hb))
theorem GG.takeRow {w0 σ0 β0 nt σ β S a w} (g:GG w0 σ0 β0 nt σ β S a w) {h esz i:Nat} {ms:List (List (List SV))} {rows:List (List SV)} (hc:S.own[h]? =some (.mat esz ms)) (hi:ms[i]? =some rows) (hf:nt.free h=true) {v:Value} (hr:rel σ β (.row h i) v):
  ∃β',GG w0 σ0 β0 nt σ β' ⟨rpT h S.own.length S.tm,rpO h S.own.length (S.own.set h .dead ++[.hol esz ms i, .vec esz rows])⟩ a w∧rel σ β' (.vec (S.own.length+1)) v:=by
 simp only [rel]at hr
 obtain⟨x,y,hx,hy,rfl⟩:=hr
 have hil:i<ms.length:=by
  rcases Nat.lt_or_ge i ms.length with h'|h'
  ·exact h'
  ·rw [List.getElem?_eq_none h']at hi;cases hi
 obtain⟨h1,h2,h3,h4,h5,h6⟩:=g.hp.ok h _ x hc hx
 obtain⟨he,hv⟩:=h5 i y rows hy hi
 have hxl:i<x.inn.length:=by omega
 have hyi:x.inn[i]? =some y:=hy
 let yz:HI:=⟨none,y.esz,y.len,y.cap,adr y.blk y.z⟩
 have hsl:yz.slice=y.slice:=by
  simp only [HI.slice,yz,adr]
 let x1:HB:=⟨x.blk,1,x.len,x.cap,x.z,x.inn.set i yz⟩
 let x2:HB:=⟨y.blk,esz,y.len,y.cap,y.z,[]⟩
 have hmap:(x.inn.set i yz).map HI.slice=x.inn.map HI.slice:=by
  rw [List.map_set,hsl]
  apply List.ext_getElem?;intro j
  rw [List.getElem?_set]
  split
  ·subst_vars
   rw [if_pos (by rw [List.length_map];exact hxl),List.getElem?_map,hyi];rfl
  ·rfl
 have hm1:∀b,b∈(x.inn.set i yz).filterMap (·.blk)→∃(j:Nat) (z:HI),j≠i∧x.inn[j]? =some z∧z.blk=some b:=by
  intro b hb
  obtain⟨z,hz,hzb⟩:=List.mem_filterMap.1 hb
  obtain⟨j,hj⟩:=List.getElem?_of_mem hz
  by_cases e:i=j
  ·subst e
   rw [List.getElem?_set_self hxl]at hj
   cases hj;cases hzb
  ·rw [List.getElem?_set_ne e]at hj
   exact⟨j,z,fun e'=>e e'.symm,hj,hzb⟩
 have hb1:∀b,b∈x1.blks→b∈x.blks:=by
  intro b hb
  simp only [x1,HB.blks,List.mem_append]at hb
  rcases hb with hb|hb
  ·simp only [HB.blks,List.mem_append];exact .inl hb
  ·obtain⟨j,z,_,hz,hzb⟩:=hm1 b hb
   exact HB.inn_mem hz hzb
 have hb2:∀b,b∈x2.blks→y.blk=some b:=by
  intro b hb
  simp only [x2,HB.blks,List.filterMap_nil,List.append_nil]at hb
  simpa using hb
 have hnd:x1.blks.Nodup:=by
  have gen:∀(l:List HI) (i:Nat),(l.filterMap (·.blk)).Nodup →((l.set i yz).filterMap (·.blk)).Nodup ∧∀q,q∈(l.set i yz).filterMap (·.blk)→q∈l.filterMap (·.blk):=by
   intro l
   induction l with
   |nil=>intro i h;simp
   |cons z l ih=>
    intro i hn
    have tl:(l.filterMap (·.blk)).Nodup :=by
     simp only [List.filterMap_cons]at hn;split at hn
     ·exact hn
     ·exact(List.nodup_cons.1 hn).2
    have tm:∀q,q∈l.filterMap (·.blk)→q∈(z::l).filterMap (·.blk):=by
     intro q hq;simp only [List.filterMap_cons];split
     ·exact hq
     ·exact List.mem_cons_of_mem _ hq
    cases i with
    |zero=>simp only [List.set_cons_zero,List.filterMap_cons,yz];exact⟨tl,tm⟩
    |succ i=>
     obtain⟨i1,i2⟩:=ih i tl
     simp only [List.set_cons_succ,List.filterMap_cons]
     cases hzb:z.blk with
     |none=>exact⟨i1,fun q hq=>i2 q hq⟩
     |some q=>
      simp only [List.filterMap_cons,hzb,List.nodup_cons]at hn
      simp only [List.nodup_cons,List.mem_cons]
      exact⟨⟨fun hq=>hn.1 (i2 q hq),i1⟩,fun p hp=>hp.elim .inl (fun hp=> .inr (i2 p hp))⟩
  have hxn:=h3
  simp only [HB.blks]at hxn
  rw [List.nodup_append]at hxn
  simp only [x1,HB.blks]
  rw [List.nodup_append]
  obtain⟨g1,g2⟩:=gen x.inn i hxn.2.1
  exact⟨hxn.1,g1,fun p hp q hq=>hxn.2.2 p hp q (g2 q hq)⟩
 have k2:chunkOK w σ (β++[x1,x2]) (.vec esz rows) x2:=⟨rfl,hv⟩
 have k1:chunkOK w σ (β++[x1,x2]) (.hol esz ms i) x1:=by
  refine⟨rfl,h2,hnd,by simp only [x1,List.length_set];exact h4,hil,fun j z m hj hz hm=>?_,?_⟩
  ·simp only [x1]at hz
   rw [List.getElem?_set_ne (fun e=>hj e.symm)]at hz
   exact h5 j z m hz hm
  ·rcases h6 with⟨_,rfl,_⟩|⟨b,rest,hb,hσ,hO,hcap,hl⟩
   ·simp at hil
   ·exact⟨b,rest,hb,hσ,by simp only [x1];rw [hmap];exact hO,hcap,hl⟩
 have hdis:∀b,b∈x1.blks→b∈x2.blks→False:=by
  intro b hb hb'
  have hyb:=hb2 b hb'
  simp only [x1,HB.blks,List.mem_append]at hb
  rcases hb with hb|hb
  ·exact nodup_outer h3 (by simpa using hb) hy hyb
  ·obtain⟨j,z,hj,hz,hzb⟩:=hm1 b hb
   exact hj (nodup_blks h3 hz hy hzb hyb)
 have g1:=g.split hx hc rfl hf hb1 (fun b hb=>HB.inn_mem hy (hb2 b hb)) hdis k1 k2
 have hlt:h<β.length:=by
  rcases Nat.lt_or_ge h β.length with h'|h'
  ·exact h'
  ·rw [List.getElem?_eq_none h']at hx;cases hx
 have g2:=g1.point (h:=h) (n:=β.length) (x:=x) (y:=x1) (by rw [List.getElem?_append_left hlt];exact hx) (by simp) (by simp [x1,HB.slice]) rfl (by simp [x1,h1])
 rw [g.hp.len]at g2
 refine⟨_,g2,?_⟩
 simp only [rel]
 refine⟨x2,by rw [←g.hp.len];simp,?_⟩
 simp only [x2,HB.slice,HI.slice]
def forceT:List (Nat×SV)→(List (Nat×SV)→Prop)→Prop
 |[],k=>k []
 |(t,s)::l,k=>forceV s fun s=>forceT l fun l=>k ((t,s)::l)
theorem forceT_ok:∀{l:List (Nat×SV)} {k:List (Nat×SV)→Prop},forceT l k→k l
 |[],_,h=>h
 |(t,s)::l,k,h=>by
  simp only [forceT]at h
  exact forceT_ok (k:=fun l=>k ((t,s)::l)) (forceV_ok h)
end Go.Sx
end
section
namespace Go.Sx
def Reads (σ:PH) (w:World) (esz:Nat) (rows:List (List SV)) (v:Value) (vss:List (List Value)):Prop:=
 ∃a cap,v= .slice a rows.length cap∧relLL σ rows vss∧(∀r∈rows,r.length=esz)∧rows.length≤cap∧(∀u∈vss.flatten,scalar u=true)∧
  (rows=[]∨∃b off A C,a=some ⟨b,off,none⟩∧Blk w b (A++vss.flatten++C)∧A.length=off)
def rowsK (S:SS) (esz:Nat) (s:SV) (k:List (List SV)→Prop):Prop:=
 match s with
 |.nil =>k []
 |.psl e rows=>match Nat.beq e esz with|true=>k rows|false=>False
 |.ful e rows=>match Nat.beq e esz with|true=>k rows|false=>False
 |.vec h=>match S.own[h]? with
  |some (.vec e rows)=>match Nat.beq e esz with|true=>k rows|false=>False
  |_=>False
 |.row h i=>match S.own[h]? with
  |some (.mat e ms)=>match Nat.beq e esz with|true=>∃m,ms[i]? =some m∧k m|false=>False
  |_=>False
 |_=>False
theorem VecOK.reads {w:World} {σ:PH} {esz:Nat} {rows:List (List SV)} {blk:Option Nat} {len cap:Nat} (h:VecOK w σ esz rows blk len cap) (z:Option Addr):
  ∃vss,Reads σ w esz rows (.slice (adr blk z) len cap) vss:=by
 obtain⟨h2,h3,h4⟩:=h
 rcases h4 with⟨hn,rfl,hcap⟩|⟨b,vss,rest,hb',hσ,⟨hsc,T,hO⟩,hrr,hcap,hl⟩
 ·exact⟨[],adr blk z,0,by simp [h2,hcap],by simp [relLL],by simp,by simp,by simp, .inl rfl⟩
 ·refine⟨vss,some ⟨b,0,none⟩,cap,by simp [adr,hb',h2],hrr,h3,hcap,fun u hu=>hsc u (by simp [hu]), .inr ⟨b,0,[],rest,rfl,⟨T,_,by simpa using hO⟩,rfl⟩⟩
theorem rowsK_ok {w0 σ0 β0 nt σ β S a w} (g:GG w0 σ0 β0 nt σ β S a w) {esz:Nat} {s:SV} {k:List (List SV)→Prop} {v:Value} (h:rowsK S esz s k) (hr:rel σ β s v):
  ∃rows vss,Reads σ w esz rows v vss∧k rows:=by
 unfold rowsK at h
 split at h
 ·simp only [rel]at hr;exact⟨[],[],⟨none,0,hr,by simp [relLL],by simp,by simp,by simp, .inl rfl⟩,h⟩
 ·split at h
  ·rename_i hb
   have:=Nat.eq_of_beq_eq_true hb;subst this
   simp only [rel]at hr
   obtain⟨a,cap,vss,e,hc,hrr,hl,hat⟩:=hr
   rcases hat with rfl|⟨b,off,ha,⟨hscA,A,C,hσ,hA⟩⟩
   ·simp only [relLL]at hrr;subst hrr
    exact⟨_,[],⟨a,cap,e,by simp [relLL],by simp,by simp,by simp, .inl rfl⟩,h⟩
   ·have hB:=g.hp.ph _ _ hσ
    exact⟨_,vss,⟨a,cap,e,hrr,hl,hc,hscA, .inr ⟨b,off,A,C,ha,hB,hA⟩⟩,h⟩
  ·exact h.elim
 ·split at h
  ·rename_i hb
   have:=Nat.eq_of_beq_eq_true hb;subst this
   simp only [rel]at hr
   obtain⟨a,vss,e,hrr,hl,hat⟩:=hr
   rcases hat with rfl|⟨b,off,ha,⟨hscA,A,C,hσ,hA⟩⟩
   ·simp only [relLL]at hrr;subst hrr
    exact⟨_,[],⟨a,_,e,by simp [relLL],by simp,by simp,by simp, .inl rfl⟩,h⟩
   ·have hB:=g.hp.ph _ _ hσ
    exact⟨_,vss,⟨a,_,e,hrr,hl,Nat.le_refl _,hscA, .inr ⟨b,off,A,C,ha,hB,hA⟩⟩,h⟩
  ·exact h.elim
 ·split at h
  ·rename_i hh e rows' hc
   split at h
   ·rename_i hb
    have:=Nat.eq_of_beq_eq_true hb;subst this
    simp only [rel]at hr
    obtain⟨x,hx,rfl⟩:=hr
    obtain⟨vss,hR⟩:=VecOK.reads (g.hp.ok _ _ _ hc hx).2 x.z
    exact⟨_,vss,hR,h⟩
   ·exact h.elim
  ·exact h.elim
 ·split at h
  ·rename_i hh i _ e ms hc
   split at h
   ·rename_i hb
    have:=Nat.eq_of_beq_eq_true hb;subst this
    obtain⟨m,hm,hk⟩:=h
    simp only [rel]at hr
    obtain⟨x,y,hx,hy,rfl⟩:=hr
    obtain⟨_,_,_,_,h5,_⟩:=g.hp.ok _ _ _ hc hx
    obtain⟨vss,hR⟩:=VecOK.reads (h5 i y m hy hm).2 y.z
    exact⟨_,vss,hR,hk⟩
   ·exact h.elim
  ·exact h.elim
 ·exact h.elim
theorem Reads.first {P:Program} {σ w esz rows v vss} (h:Reads σ w esz rows v vss) {w':World} (hw:w'.heap=w.heap):
  (Builtin.firstCells esz rows.length v).run P w'= .ok vss.flatten.toArray w'∧(Builtin.lenOf v).run P w'= .ok rows.length w':=by
 obtain⟨a,cap,rfl,hr,hl,hc,hs,hat⟩:=h
 refine⟨?_,by simp [Builtin.lenOf]⟩
 have hlen:vss.flatten.length=rows.length*esz:=by rw [flat_length (relLL_rows hr hl),relLL_length hr]
 rcases hat with rfl|⟨b,off,A,C,rfl,hB,hA⟩
 ·simp only [relLL]at hr;subst hr
  cases a with
  |none=>simp [Builtin.firstCells]
  |some a=>simp [Builtin.firstCells,loadCells,loadCellsFrom]
 ·simp only [Builtin.firstCells]
  have hB':Blk w' b (A++vss.flatten++C):=by obtain⟨T,fz,h2⟩:=hB;exact⟨T,fz,by rw [hw];exact h2⟩
  exact run_loadSeg hB' hA hlen
def okD (de:TyD):Bool:=Nat.beq de.zero.cells.size de.size && de.zero.cells.toList.all scalar
theorem zeroCells_sc {z:Array Value} (h:z.toList.all scalar=true) (n:Nat):∀u∈(Builtin.zeroCells z n).toList,scalar u=true:=by
 intro u hu
 simp only [Builtin.zeroCells,Array.toList_map,List.mem_map]at hu
 obtain⟨i,hi,rfl⟩:=hu
 simp only [Array.toList_range,List.mem_range]at hi
 have hz:0<z.size:=by
  rcases Nat.eq_zero_or_pos z.size with h0|h0
  ·rw [h0,Nat.mul_zero]at hi;omega
  ·exact h0
 have hlt:i%z.size<z.size:=Nat.mod_lt _ hz
 rw [getElem!_pos z (i%z.size) hlt]
 rw [List.all_eq_true]at h
 exact h _ (by simp)
theorem run_app_none {P:Program} {t e:Nat} {d de:TyD} (ht:TyOK P t d) (hd:d.desc= .slice e) (he:TyOK P e de) {σ:PH} {w:World} {vy:Value} {vss:List (List Value)} (ty:TypeId)
  (hy:Reads σ w de.size [] vy vss) {a:Option Addr} {n c:Nat} (hc:n≤c):
  (Builtin.append_ #[t,t] ty #[.slice a n c,vy]).run P w= .ok (.slice a n c) w:=by
 obtain⟨⟨i,hi,hsz,hby,hz⟩,hu⟩:=he
 have htu:=ht.2
 rw [hd]at htu
 have hf:=(hy.first (P:=P) (w':=w) rfl)
 have h1:=hf.1;have h2:=hf.2
 have hv0:vss=[]:=by
  obtain⟨_,_,_,hr,_⟩:=hy;simpa [relLL]using hr
 subst hv0
 simp only [List.length_nil]at h1 h2
 cases a<;>simp [Builtin.append_,run_underlying htu,sizeOf,typeInfo,hi,h1,h2,hsz,hc,storeCells]
theorem run_app_room {P:Program} {t e:Nat} {d de:TyD} (ht:TyOK P t d) (hd:d.desc= .slice e) (he:TyOK P e de) {σ:PH} {w:World} {yr:List (List SV)} {vy:Value} {vss:List (List Value)} (ty:TypeId)
  (hy:Reads σ w de.size yr vy vss) {b n cap:Nat} {A M C:List Value} {T:TypeId} (hb:w.heap[b]? =some (.cells (A++M++C).toArray T (0,0))) (hA:A.length=n*de.size)
  (hM:M.length=vss.flatten.length) (hroom:n+yr.length≤cap):
  (Builtin.append_ #[t,t] ty #[.slice (some ⟨b,0,none⟩) n cap,vy]).run P w= .ok (.slice (some ⟨b,0,none⟩) (n+yr.length) cap) (put w b (.cells (A++vss.flatten++C).toArray T (0,0))):=by
 obtain⟨⟨i,hi,hsz,hby,hz⟩,hu⟩:=he
 have htu:=ht.2
 rw [hd]at htu
 have hf:=(hy.first (P:=P) (w':=w) rfl)
 have hsc:∀u∈vss.flatten,scalar u=true:=by obtain⟨a,c,_,_,_,_,hs,_⟩:=hy;exact hs
 have hst:=run_storeSeg (P:=P) (b:=b) (off:=n*de.size) (T:=T) (post:=C) vss.flatten M A w 0 hb (by omega) hM hsc
 have hadd:(⟨b,0,none⟩:Addr).add (n*de.size)=⟨b,n*de.size,none⟩:=by
  unfold Addr.add;split
  ·rename_i h;rw [h]
  ·simp
 have h1:=hf.1;have h2:=hf.2
 simp [Builtin.append_,run_underlying htu,sizeOf,typeInfo,hi,h1,h2,hsz,hroom,hadd,hst]
theorem run_app_grow {P:Program} {t e:Nat} {d de:TyD} (ht:TyOK P t d) (hd:d.desc= .slice e) (he:TyOK P e de) {σ:PH} {w:World} {yr:List (List SV)} {vy:Value} {vss:List (List Value)} (ty:TypeId)
  (hy:Reads σ w de.size yr vy vss) {xr:List (List SV)} {vx:Value} {xss:List (List Value)} (hx:Reads σ w de.size xr vx xss) {a:Option Addr} {xcap:Nat} (hvx:vx= .slice a xr.length xcap)
  (hroom:¬(xr.length+yr.length≤xcap)) (hb:(xr.length+yr.length)*de.bytes≤140737488355328) (h63:xr.length+yr.length≤140737488355328):
  ∃cap,xr.length+yr.length≤cap∧(Builtin.append_ #[t,t] ty #[vx,vy]).run P w= .ok (.slice (some ⟨w.heap.size,0,none⟩) (xr.length+yr.length) cap)
   (w.drew.alloc (.cells (xss.flatten.toArray++vss.flatten.toArray++Builtin.zeroCells de.zero.cells (cap-(xr.length+yr.length))) e)):=by
 obtain⟨⟨i,hi,hsz,hby,hz⟩,hu⟩:=he
 have htu:=ht.2
 rw [hd]at htu
 have hf:=(hy.first (P:=P) (w':=w) rfl)
 have hf':=(hy.first (P:=P) (w':=w.drew) rfl)
 have hfx:=(hx.first (P:=P) (w':=w.drew) rfl)
 subst hvx
 have h63':¬(9223372036854775807<((xr.length:Nat):Int)+((yr.length:Nat):Int)):=by omega
 have h48':¬(281474976710656<Builtin.nextslicecap (xr.length+yr.length) xcap*de.bytes):=by
  have:=growslice_fits (need:=xr.length+yr.length) (old:=xcap) (bytes:=de.bytes) (by omega) hb;omega
 refine⟨grownCap w (xr.length+yr.length) xcap e,grownCap_ge _ _ _ _,?_⟩
 have h2:=hf.2;have h1:=hf'.1;have h3:=hfx.1
 simp only [Builtin.append_]
 simp [run_underlying htu,sizeOf,typeInfo,zeroValue,hi,hz,h2,hroom,h63',h48',hby,hsz,Question.forced,h1,h3,newRow,grownCap]
 congr 2
 apply Array.ext'
 simp
theorem okD_ok {de:TyD} (h:okD de=true):de.zero.cells.size=de.size∧de.zero.cells.toList.all scalar=true:=by
 unfold okD at h
 rw [Bool.and_eq_true]at h
 exact⟨Nat.eq_of_beq_eq_true h.1,h.2⟩
theorem Reads.sc {σ w esz rows v vss} (h:Reads σ w esz rows v vss):∀u∈vss.flatten,scalar u=true:=by
 obtain⟨a,c,_,_,_,_,hs,_⟩:=h;exact hs
theorem Reads.rl {σ w esz rows v vss} (h:Reads σ w esz rows v vss):relLL σ rows vss:=by
 obtain⟨a,c,_,hr,_⟩:=h;exact hr
theorem Reads.ln {σ w esz rows v vss} (h:Reads σ w esz rows v vss):∀r∈rows,r.length=esz:=by
 obtain⟨a,c,_,_,hl,_⟩:=h;exact hl
theorem Reads.flen {σ w esz rows v vss} (h:Reads σ w esz rows v vss):vss.flatten.length=rows.length*esz:=by
 rw [flat_length (relLL_rows h.rl h.ln),relLL_length h.rl]
theorem GG.drew {w0 σ0 β0 nt σ β S a w} (g:GG w0 σ0 β0 nt σ β S a w):GG w0 σ0 β0 nt σ β S a w.drew:=⟨g.tm,g.sz,g.df,g.hp.drew,g.fr.drew,⟨g.pn.at_,g.pn.fr⟩⟩
theorem zc_len (z:Array Value) (n:Nat):(Builtin.zeroCells z n).toList.length =n*z.size:=by simp [Builtin.zeroCells]
theorem run_app_nil {P:Program} {t e:Nat} {d de:TyD} (ht:TyOK P t d) (hd:d.desc= .slice e) (he:TyOK P e de) {σ:PH} {w:World} {yr:List (List SV)} {vy:Value} {vss:List (List Value)} (ty:TypeId)
  (hy:Reads σ w de.size yr vy vss) (a:Option Addr) (hb:yr.length*de.bytes≤140737488355328) (h63:yr.length≤140737488355328):
  (yr=[]∧(Builtin.append_ #[t,t] ty #[.slice a 0 0,vy]).run P w= .ok (.slice a 0 0) w)∨
  ∃cap,yr.length≤cap∧(Builtin.append_ #[t,t] ty #[.slice a 0 0,vy]).run P w= .ok (.slice (some ⟨w.heap.size,0,none⟩) yr.length cap)
   (w.drew.alloc (.cells (vss.flatten++(Builtin.zeroCells de.zero.cells (cap-yr.length)).toList).toArray e)):=by
 by_cases hn:yr=[]
 ·subst hn;exact .inl ⟨rfl,run_app_none ht hd he ty hy (Nat.le_refl _)⟩
 ·right
  have hl:0<yr.length:=List.length_pos_iff.2 hn
  obtain⟨cap,hc,hrun⟩:=run_app_grow (P:=P) ht hd he ty hy (xr:=[]) (vx:= .slice a 0 0) (xss:=[]) (xcap:=0) (a:=a) ⟨a,0,rfl,by simp [relLL],by simp,by simp,by simp, .inl rfl⟩ rfl
   (by simp;omega) (by simpa using hb) (by simpa using h63)
  refine⟨cap,by simpa using hc,?_⟩
  rw [hrun]
  simp only [List.length_nil,Nat.zero_add]
  congr 2
  apply congrArg (fun c=>Obj.cells c e)
  apply Array.ext'
  simp
def matOf (S:SS) (y:SV):Option (Nat×Nat×List (List (List SV))):=
 match y with
 |.vec h=>match S.own[h]? with
  |some (.mat e ms)=>some (h,e,ms)
  |_=>none
 |_=>none
inductive FulOb (rows yr:List (List SV)) (K:Prop):Prop
 |emp (h:rows=[]) (hk:K)
 |ne (h:0<yr.length) (hk:K)
def appV (E:Env) (S:SS) (de:TyD) (x:SV) (yr:List (List SV)) (k:SS→SV→Prop):Prop:=
 match x with
 |.nil =>(yr.length*de.bytes≤140737488355328∧yr.length≤140737488355328)∧
   forceN S.own.length fun n=>forceL (S.own++[.vec de.size yr]) fun own=>S.withTm fun tm=>k ⟨tm,own⟩ (.vec n)
 |.ful esz rows=>match Nat.beq esz de.size with
  |true=>FulOb rows yr (((rows.length+yr.length)*de.bytes≤140737488355328∧rows.length+yr.length≤140737488355328)∧
    forceN S.own.length fun n=>forceL (S.own++[.vec esz (rows++yr)]) fun own=>S.withTm fun tm=>k ⟨tm,own⟩ (.vec n))
  |false=>False
 |.vec h=>
  match E.free h with
  |false=>False
  |true=>
   match S.own[h]? with
   |some (.vec esz rows)=>
    match Nat.beq esz de.size with
    |true=>((rows.length+yr.length)*de.bytes≤140737488355328∧rows.length+yr.length≤140737488355328)∧
      forceN S.own.length fun n=>forceL ((S.own.set h .dead)++[.vec esz (rows++yr)]) fun own=>S.withTm fun tm=>k ⟨tm,own⟩ (.vec n)
    |false=>False
   |_=>False
 |_=>False
def appM (E:Env) (S:SS) (de:TyD) (x:SV) (hy esz:Nat) (my:List (List (List SV))) (k:SS→SV→Prop):Prop:=
 match Nat.beq de.size 1 && E.free hy with
 |false=>False
 |true=>match x with
  |.nil =>(my.length*de.bytes≤140737488355328∧my.length≤140737488355328)∧
   forceN S.own.length fun n=>forceL ((S.own.set hy .dead)++[.mat esz my]) fun own=>S.withTm fun tm=>k ⟨tm,own⟩ (.vec n)
  |.vec hx=>match E.free hx && !(Nat.beq hx hy)with
   |false=>False
   |true=>match S.own[hx]? with
    |some (.mat e mx)=>match Nat.beq e esz with
     |true=>((mx.length+my.length)*de.bytes≤140737488355328∧mx.length+my.length≤140737488355328)∧
      forceN S.own.length fun n=>forceL (((S.own.set hx .dead).set hy .dead)++[.mat esz (mx++my)]) fun own=>S.withTm fun tm=>k ⟨tm,own⟩ (.vec n)
     |false=>False
    |some (.vec e mx)=>match Nat.beq e 1 with
     |true=>mx=[]∧(my.length*de.bytes≤140737488355328∧my.length≤140737488355328)∧
      forceN S.own.length fun n=>forceL (((S.own.set hx .dead).set hy .dead)++[.mat esz my]) fun own=>S.withTm fun tm=>k ⟨tm,own⟩ (.vec n)
     |false=>False
    |_=>False
  |_=>False
def appR (E:Env) (S:SS) (de:TyD) (x:SV) (yr:List (List SV)) (k:SS→SV→Prop):Prop:=
 match x with
 |.row h i=>match E.free h with
  |false=>False
  |true=>match S.own[h]? with
   |some (.mat esz ms)=>∃rows,ms[i]? =some rows∧forceN S.own.length fun m=>forceN (m+1) fun m1=>forceT (rpT h m S.tm) fun tm=>forceO (rpO h m (S.own.set h .dead ++[.hol esz ms i, .vec esz rows])) fun own=>appV E ⟨tm,own⟩ de (.vec m1) yr k
   |_=>False
 |x=>appV E S de x yr k
def appS (E:Env) (S:SS) (t:Nat) (x y:SV) (k:SS→SV→Prop):Prop:=
 need (elemD E t) fun de=>
  match okD de with
  |false=>False
  |true=>match matOf S y with
   |some (hy,e,my)=>appM E S de x hy e my k
   |none=>rowsK S de.size y fun yr=>appR E S de x yr k
theorem app_new {E : Env} {w0 σ0 β0 nt σ β S a w} (g : GG w0 σ0 β0 nt σ β S a w) {de : TyD} (hok : okD de = true) {xr yr : List (List SV)} {xss vss : List (List Value)} (hx : relLL σ xr xss) (hxl : ∀ r ∈ xr, r.length = de.size) (hxs : ∀ u ∈ xss.flatten, scalar u = true)
    (hy : relLL σ yr vss) (hyl : ∀ r ∈ yr, r.length = de.size) (hys : ∀ u ∈ vss.flatten, scalar u = true) {cap e : Nat} (hcap : xr.length + yr.length ≤ cap) :
    GG w0 σ0 β0 nt σ (β ++ [hb4 (some w.heap.size) de.size (xr.length + yr.length) cap]) ⟨S.tm, S.own ++ [.vec de.size (xr ++ yr)]⟩ a
      (w.drew.alloc (.cells (xss.flatten ++ vss.flatten ++ (Builtin.zeroCells de.zero.cells (cap - (xr.length + yr.length))).toList).toArray e)) := by
  obtain ⟨hz1, hz2⟩ := okD_ok hok
  have hzl := zc_len de.zero.cells (cap - (xr.length + yr.length))
  have fx : xss.flatten.length = xr.length * de.size := by rw [flat_length (relLL_rows hx hxl), relLL_length hx]
  have fy : vss.flatten.length = yr.length * de.size := by rw [flat_length (relLL_rows hy hyl), relLL_length hy]
  have := (g.drew).newVec (esz := de.size) (cap := cap) (rows := xr ++ yr) (vss := xss ++ vss) (rest := (Builtin.zeroCells de.zero.cells (cap - (xr.length + yr.length))).toList) (relLL_append hx hy)
    (fun r hr => (List.mem_append.1 hr).elim (hxl r) (hyl r)) (by simpa using hcap)
    (by rw [List.flatten_append, List.length_append, fx, fy, hzl, hz1, ← Nat.add_mul, ← Nat.add_mul]; congr 1; omega)
    (by intro u hu
        simp only [List.flatten_append, List.mem_append] at hu
        rcases hu with (hu | hu) | hu
        · exact hxs u hu
        · exact hys u hu
        · exact zeroCells_sc hz2 _ u hu) e
  simpa [List.length_append, List.flatten_append] using this
theorem appV_ok {E : Env} {w0 σ0 β0 nt σ β S a w} (g : GG w0 σ0 β0 nt σ β S a w) (hfx : E.free = nt.free) {t e : Nat} {d de : TyD} (hT : TyOK E.P t d) (hd : d.desc = .slice e) (he : TyOK E.P e de) (hok : okD de = true)
    {x : SV} {vx vy : Value} {yr : List (List SV)} {vss : List (List Value)} {k : SS → SV → Prop} (ty : TypeId) (h : appV E S de x yr k) (hx : rel σ β x vx) (hR : Reads σ w de.size yr vy vss) :
    ∃ v w' β' S' s, (Builtin.append_ #[t, t] ty #[vx, vy]).run E.P w = .ok v w' ∧ GG w0 σ0 β0 nt σ β' S' a w' ∧ rel σ β' s v ∧ k S' s := by
  obtain ⟨hz1, hz2⟩ := okD_ok hok
  unfold appV at h
  split at h
  · obtain ⟨⟨hb, h63⟩, hk⟩ := h
    have hk := forceN_ok hk
    simp only [forceL_eq, SS.withTm_eq] at hk
    simp only [rel] at hx; subst hx
    rcases run_app_nil hT hd he ty hR none hb h63 with ⟨rfl, hrun⟩ | ⟨cap, hcap, hrun⟩
    · refine ⟨_, _, _, _, _, hrun, g.nilVec de.size, ?_, hk⟩
      simp only [rel]
      refine ⟨hb4 none de.size 0 0, by simp [← g.hp.len], rfl⟩
    · have := app_new g (e := e) (E := E) hok (xr := []) (xss := []) (by simp [relLL]) (by simp) (by simp) hR.rl hR.ln hR.sc (cap := cap) (by simpa using hcap)
      simp only [List.length_nil, Nat.zero_add, List.flatten_nil, List.nil_append] at this
      refine ⟨_, _, _, _, _, hrun, this, ?_, hk⟩
      simp only [rel]
      refine ⟨hb4 (some w.heap.size) de.size yr.length cap, by simp [← g.hp.len], rfl⟩
  · rename_i esz rows
    split at h
    · rename_i hes
      have hes := Nat.eq_of_beq_eq_true hes; subst hes
      simp only [rel] at hx
      obtain ⟨ad, xss, rfl, hrr, hl, hat⟩ := hx
      have hRx : Reads σ w de.size rows (.slice ad rows.length rows.length) xss := by
        rcases hat with rfl | ⟨b, off, ha, ⟨hscA, A, C, hσ, hA⟩⟩
        · simp only [relLL] at hrr; subst hrr
          exact ⟨ad, _, rfl, by simp [relLL], by simp, by simp, by simp, .inl rfl⟩
        · exact ⟨ad, _, rfl, hrr, hl, Nat.le_refl _, hscA, .inr ⟨b, off, A, C, ha, g.hp.ph _ _ hσ, hA⟩⟩
      have grow : 0 < yr.length → (((rows.length + yr.length) * de.bytes ≤ 140737488355328 ∧ rows.length + yr.length ≤ 140737488355328) ∧
        forceN S.own.length fun n => forceL (S.own ++ [.vec de.size (rows ++ yr)]) fun own => S.withTm fun tm => k ⟨tm, own⟩ (.vec n)) →
          ∃ v w' β' S' s, (Builtin.append_ #[t, t] ty #[.slice ad rows.length rows.length, vy]).run E.P w = .ok v w' ∧ GG w0 σ0 β0 nt σ β' S' a w' ∧ rel σ β' s v ∧ k S' s := by
        rintro hpos ⟨⟨hb, h63⟩, hk⟩
        have hk := forceN_ok hk
        simp only [forceL_eq, SS.withTm_eq] at hk
        obtain ⟨cap, hcap, hrun⟩ := run_app_grow (P := E.P) hT hd he ty hR hRx rfl (by omega) hb h63
        have ga := app_new g (e := e) (E := E) hok hRx.rl hRx.ln hRx.sc hR.rl hR.ln hR.sc hcap
        have ea : xss.flatten.toArray ++ vss.flatten.toArray ++ Builtin.zeroCells de.zero.cells (cap - (rows.length + yr.length)) = (xss.flatten ++ vss.flatten ++ (Builtin.zeroCells de.zero.cells (cap - (rows.length + yr.length))).toList).toArray := by
          apply Array.ext'; simp
        rw [ea] at hrun
        refine ⟨_, _, _, _, _, hrun, ga, ?_, hk⟩
        simp only [rel]
        exact ⟨hb4 (some w.heap.size) de.size (rows.length + yr.length) cap, by simp [← g.hp.len], rfl⟩
      cases h with
      | ne h hk => exact grow h hk
      | emp h hk =>
        rcases Nat.eq_zero_or_pos yr.length with h0 | h0
        · have : yr = [] := List.length_eq_zero_iff.1 h0
          subst this; subst h
          obtain ⟨_, hk⟩ := hk
          have hk := forceN_ok hk
          simp only [forceL_eq, SS.withTm_eq] at hk
          refine ⟨_, _, _, _, _, run_app_none hT hd he ty hR (Nat.le_refl _), g.noVec de.size ad, ?_, hk⟩
          simp only [rel]
          exact ⟨⟨none, de.size, 0, 0, ad, []⟩, by simp [← g.hp.len], rfl⟩
        · exact grow h0 hk
    · exact h.elim
  · rename_i hh
    split at h
    · exact h.elim
    rename_i hfree
    rw [hfx] at hfree
    split at h
    · rename_i esz rows hc
      split at h
      · rename_i hes
        have hes := Nat.eq_of_beq_eq_true hes
        subst hes
        obtain ⟨⟨hb, h63⟩, hk⟩ := h
        have hk := forceN_ok hk
        simp only [forceL_eq, SS.withTm_eq] at hk
        have hown := g.hp.len
        simp only [rel] at hx
        obtain ⟨xb, hxb, rfl⟩ := hx
        have hck := g.hp.ok _ _ _ hc hxb
        obtain ⟨xss, hRx⟩ := VecOK.reads hck.2 xb.z
        obtain ⟨h1, h2, h3, h4⟩ := hck
        have rowsl : ∀ r ∈ rows ++ yr, r.length = de.size := fun r hr => (List.mem_append.1 hr).elim (h3 r) (hR.ln r)
        have hlive : ∀ h ∈ [hh], nt.free h = true ∧ ∃ c, S.own[h]? = some c ∧ live c = true := by
          intro h hm; simp at hm; subst hm; exact ⟨hfree, _, hc, rfl⟩
        have hk1 : ∀ c, killL [hh] S.own ++ [c] = S.own.set hh .dead ++ [c] := fun c => rfl
        by_cases hroom : rows.length + yr.length ≤ xb.cap
        · rcases h4 with ⟨hbn, rfl, hcap⟩ | ⟨b, vs0, rest, hbb, hσ, ⟨hsc, T, hO⟩, hrr, hcap, hl⟩
          ·
            have hy0 : yr = [] := List.length_eq_zero_iff.1 (by simp at hroom; omega)
            subst hy0
            have hsl : xb.slice = .slice (adr none xb.z) 0 0 := by simp [HB.slice, hbn, h2, hcap]
            refine ⟨_, w, β ++ [⟨none, de.size, 0, 0, xb.z, []⟩], ⟨S.tm, (S.own.set hh .dead) ++ [.vec de.size ([] ++ [])]⟩, .vec S.own.length, by rw [hsl]; exact run_app_none hT hd he ty hR (Nat.le_refl _),
              g.succL (hs := [hh]) (c := .vec de.size ([] ++ [])) hlive (Nat.le_refl _) ⟨rfl, rfl, rfl⟩ (fun _ _ _ => rfl) (by simp [HB.blks]) ⟨rfl, rfl, by simp, .inl ⟨rfl, rfl, rfl⟩⟩, ?_, hk⟩
            simp only [rel]
            exact ⟨⟨none, de.size, 0, 0, xb.z, []⟩, by simp [← hown], rfl⟩
          ·
            have hsl : xb.slice = .slice (some ⟨b, 0, none⟩) rows.length xb.cap := by simp [HB.slice, adr, hbb, h2]
            have hvl : vs0.flatten.length = rows.length * de.size := by rw [flat_length (relLL_rows hrr h3), relLL_length hrr]
            have hrl : yr.length * de.size ≤ rest.length := by
              have : (rows.length + yr.length) * de.size ≤ xb.cap * de.size := Nat.mul_le_mul_right _ hroom
              rw [Nat.add_mul] at this; omega
            have hrest : rest = rest.take (yr.length * de.size) ++ rest.drop (yr.length * de.size) := (List.take_append_drop _ _).symm
            have hrun := run_app_room (P := E.P) hT hd he ty hR (b := b) (n := rows.length) (cap := xb.cap) (A := vs0.flatten) (M := rest.take (yr.length * de.size)) (C := rest.drop (yr.length * de.size)) (T := T)
              (by rw [hO]; conv => lhs; rw [hrest]
                  simp [List.append_assoc]) hvl (by rw [List.length_take, hR.flen]; omega) hroom
            have hblt := lt_of_get hO
            refine ⟨_, put w b (.cells (vs0.flatten ++ vss.flatten ++ rest.drop (yr.length * de.size)).toArray T (0, 0)), β ++ [hb4 (some b) de.size (rows.length + yr.length) xb.cap], _, _, by rw [hsl]; exact hrun,
              g.succL (hs := [hh]) (w' := put w b (.cells (vs0.flatten ++ vss.flatten ++ rest.drop (yr.length * de.size)).toArray T (0, 0))) (c := .vec de.size (rows ++ yr)) (x' := hb4 (some b) de.size (rows.length + yr.length) xb.cap) hlive (by simp) ⟨rfl, rfl, rfl⟩ ?_ ?_ ?_, ?_, hk⟩
            · intro k _ hne; exact put_get_ne (by rintro rfl; exact hne ⟨hh, by simp, xb, hxb, HB.blk_mem hbb⟩)
            · intro k hk'; have := hb4_mem hk'; cases this; exact .inl ⟨hh, by simp, xb, hxb, HB.blk_mem hbb⟩
            · refine ⟨rfl, by simp, rowsl, .inr ⟨b, vs0 ++ vss, rest.drop (yr.length * de.size), rfl, hσ, ⟨?_, T, ?_⟩, relLL_append hrr hR.rl, by simpa using hroom, ?_⟩⟩
              · intro u hu
                simp only [List.flatten_append, List.mem_append] at hu
                rcases hu with (hu | hu) | hu
                · exact hsc u (by simp [hu])
                · exact hR.sc u hu
                · exact hsc u (by simp [List.mem_of_mem_drop hu])
              · rw [put_get_same hblt]; simp
              · simp only [List.flatten_append, List.length_append, hvl, hR.flen, List.length_drop]
                rw [hvl] at hl; omega
            · simp only [rel]
              refine ⟨_, by rw [← hown, List.getElem?_append_right (Nat.le_refl _), Nat.sub_self]; rfl, by simp [HB.slice, adr]⟩
        ·
          have hsl : xb.slice = .slice (adr xb.blk xb.z) rows.length xb.cap := by simp [HB.slice, h2]
          obtain ⟨cap, hcap, hrun⟩ := run_app_grow (P := E.P) hT hd he ty hR hRx (by rw [h2]) hroom hb h63
          have hzl := zc_len de.zero.cells (cap - (rows.length + yr.length))
          rw [h2] at hrun
          refine ⟨_, _, β ++ [hb4 (some w.heap.size) de.size (rows.length + yr.length) cap], _, _, by rw [hsl]; exact hrun,
            g.succL (hs := [hh]) (w' := w.drew.alloc (.cells (xss.flatten.toArray ++ vss.flatten.toArray ++ Builtin.zeroCells de.zero.cells (cap - (rows.length + yr.length))) e)) (c := .vec de.size (rows ++ yr)) (x' := hb4 (some w.heap.size) de.size (rows.length + yr.length) cap) hlive (by simp) ⟨rfl, rfl, rfl⟩ ?_ ?_ ?_, ?_, hk⟩
          · intro b hb' _; exact heap_alloc_lt w.drew _ hb'
          · intro b hb'; have := hb4_mem hb'; cases this; exact .inr ⟨Nat.le_refl _, by simp⟩
          · refine ⟨rfl, by simp, rowsl, .inr ⟨w.heap.size, xss ++ vss, (Builtin.zeroCells de.zero.cells (cap - (rows.length + yr.length))).toList, rfl, g.hp.no (Nat.le_refl _), ⟨?_, e, ?_⟩, relLL_append hRx.rl hR.rl, by simpa using hcap, ?_⟩⟩
            · intro u hu
              simp only [List.flatten_append, List.mem_append] at hu
              rcases hu with (hu | hu) | hu
              · exact hRx.sc u hu
              · exact hR.sc u hu
              · exact zeroCells_sc hz2 _ u hu
            · rw [show w.heap.size = w.drew.heap.size from rfl, heap_alloc_new]
              congr 2
              apply Array.ext'
              simp
            · simp only [List.flatten_append, List.length_append, hRx.flen, hR.flen, hzl, hz1]
              rw [← Nat.add_mul, ← Nat.add_mul]; congr 1; omega
          · simp only [rel]
            refine ⟨_, by rw [← hown, List.getElem?_append_right (Nat.le_refl _), Nat.sub_self]; rfl, by simp [HB.slice, adr]⟩
      · exact h.elim
    · exact h.elim
  · exact h.elim
end Go.Sx
end
section
namespace Go.Sx
def innB (inn:List HI):List Nat:=inn.filterMap (·.blk)
def MatOK (w:World) (σ:PH) (esz:Nat) (ms:List (List (List SV))) (blk:Option Nat) (len cap:Nat) (inn:List HI):Prop:=
 len=ms.length∧inn.length=ms.length∧(∀(i:Nat) (y:HI) (m:List (List SV)),inn[i]? =some y→ms[i]? =some m→y.esz=esz∧VecOK w σ esz m y.blk y.len y.cap)∧
  ((blk=none∧ms=[]∧cap=0)∨∃b rest,blk=some b∧σ b=none∧OBlk w b (inn.map HI.slice++rest)∧ms.length≤cap∧cap≤ms.length+rest.length)
theorem mat_ok {w σ β esz ms x} (h:chunkOK w σ β (.mat esz ms) x):MatOK w σ esz ms x.blk x.len x.cap x.inn:=by
 obtain⟨h1,h2,h3,h4,h5,h6⟩:=h;exact⟨h2,h4,h5,h6⟩
theorem mat_mk {w σ β esz ms} {x:HB} (h1:x.esz=1) (hn:x.blks.Nodup) (h:MatOK w σ esz ms x.blk x.len x.cap x.inn):chunkOK w σ β (.mat esz ms) x:=by
 obtain⟨h2,h4,h5,h6⟩:=h;exact⟨h1,h2,hn,h4,h5,h6⟩
theorem vec_mat {w σ β} {x:HB} (h:chunkOK w σ β (.vec 1 []) x) (esz:Nat):MatOK w σ esz [] x.blk x.len x.cap []:=by
 obtain⟨h1,h2,h3,h4⟩:=h
 refine⟨h2,rfl,by simp,?_⟩
 rcases h4 with h4|⟨b,vss,rest,hb,hσ,hO,hr,hc,hl⟩
 ·exact .inl ⟨h4.1,rfl,h4.2.2⟩
 ·simp only [relLL]at hr;subst hr
  exact .inr ⟨b,rest,hb,hσ,by simpa using hO,by simp,by simp at hl⊢;omega⟩
theorem MatOK.reads {w σ esz ms blk len cap inn} (h:MatOK w σ esz ms blk len cap inn) (z:Option Addr):
  Reads σ w 1 (List.replicate ms.length [SV.any]) (.slice (adr blk z) len cap) (inn.map fun y=>[y.slice]):=by
 obtain⟨h1,h2,h3,h4⟩:=h
 have hrel:∀(l:List HI),relLL σ (List.replicate l.length [SV.any]) (l.map fun y=>[y.slice]):=by
  intro l
  induction l with
  |nil=>simp [relLL]
  |cons y l ih=>simp only [List.length_cons,List.replicate_succ,List.map_cons];exact relLL_cons.2 ⟨relL_cons.2 ⟨by simp [rel],by simp [relL]⟩,ih⟩
 have hf:(inn.map fun y=>[y.slice]).flatten =inn.map HI.slice:=by
  clear h2 h3 h4 hrel
  induction inn with
  |nil=>rfl
  |cons y l ih=>simp only [List.map_cons,List.flatten_cons,ih];rfl
 have hr:=hrel inn
 rw [h2]at hr
 rcases h4 with⟨hb,rfl,hcap⟩|⟨b,rest,hb,hσ,⟨hsc,T,hO⟩,hc,hl⟩
 ·exact⟨adr blk z,cap,by simp [h1],hr,by simp,by simp,by intro u hu;rw [hf]at hu;have:inn=[]:=List.length_eq_zero_iff.1 (by simpa using h2);subst this;simp at hu, .inl (by simp)⟩
 ·refine⟨some ⟨b,0,none⟩,cap,by simp [h1,hb,adr],hr,by intro r hr;rw [List.mem_replicate]at hr;rw [hr.2];rfl,by simpa using hc,fun u hu=>hsc u (by rw [hf]at hu;simp [List.mem_append];left;simpa using hu), .inr ⟨b,0,[],rest,rfl,⟨T,_,by rw [hf];simpa using hO⟩,rfl⟩⟩
theorem app_mat {E : Env} {w0 σ0 β0 nt σ β S a w} (g : GG w0 σ0 β0 nt σ β S a w) {t e : Nat} {d de : TyD} (hT : TyOK E.P t d) (hd : d.desc = .slice e) (he : TyOK E.P e de) (hok : okD de = true) (hde : de.size = 1)
    {esz : Nat} {mx my : List (List (List SV))} {xblk : Option Nat} {xlen xcap : Nat} {xinn : List HI} (xz : Option Addr) (hX : MatOK w σ esz mx xblk xlen xcap xinn) {yb : HB} {hy : Nat} (hyb : β[hy]? = some yb) (hY : MatOK w σ esz my yb.blk yb.len yb.cap yb.inn)
    {hs : List Nat} (hlive : ∀ h ∈ hs, nt.free h = true ∧ ∃ c, S.own[h]? = some c ∧ live c = true) (hhy : hy ∈ hs) (hxb : ∀ b, b ∈ xblk.toList ++ innB xinn → ofHs β hs b)
    (hnd : (xblk.toList ++ (innB xinn ++ innB yb.inn)).Nodup) (hbd : (mx.length + my.length) * de.bytes ≤ 140737488355328) (h63 : mx.length + my.length ≤ 140737488355328) (ty : TypeId) :
    ∃ v w' x', (Builtin.append_ #[t, t] ty #[.slice (adr xblk xz) xlen xcap, yb.slice]).run E.P w = .ok v w' ∧ GG w0 σ0 β0 nt σ (β ++ [x']) ⟨S.tm, killL hs S.own ++ [.mat esz (mx ++ my)]⟩ a w' ∧ v = x'.slice := by
  have hRx := hX.reads xz
  have hRy := hY.reads yb.z
  rw [← hde] at hRx hRy
  obtain ⟨hx1, hx2, hx3, hx4⟩ := hX
  obtain ⟨hy1, hy2, hy3, hy4⟩ := hY
  have hyin : ∀ b, b ∈ innB yb.inn → ofHs β hs b := fun b hb => ⟨hy, hhy, yb, hyb, by simp only [HB.blks, List.mem_append]; exact .inr hb⟩
  have hfx : (xinn.map fun y => [y.slice]).flatten = xinn.map HI.slice := by
    clear hx2 hx3 hx4 hRx hxb hnd
    induction xinn with
    | nil => rfl
    | cons y l ih => simp only [List.map_cons, List.flatten_cons, ih]; rfl
  have hfy : (yb.inn.map fun y => [y.slice]).flatten = yb.inn.map HI.slice := by
    generalize yb.inn = l
    induction l with
    | nil => rfl
    | cons y l ih => simp only [List.map_cons, List.flatten_cons, ih]; rfl
  have hin : ∀ {w' : World}, (∀ b, b ∈ innB xinn ++ innB yb.inn → w'.heap[b]? = w.heap[b]?) → ∀ (i : Nat) (y : HI) (m : List (List SV)), (xinn ++ yb.inn)[i]? = some y → (mx ++ my)[i]? = some m → y.esz = esz ∧ VecOK w' σ esz m y.blk y.len y.cap := by
    intro w' hw i y m hy' hm
    have mem : ∀ b, y.blk = some b → y ∈ xinn ++ yb.inn → b ∈ innB xinn ++ innB yb.inn := by
      intro b hb hmem
      simp only [innB]; rw [← List.filterMap_append]
      exact List.mem_filterMap.2 ⟨y, hmem, hb⟩
    have hmem := List.mem_of_getElem? hy'
    have : y.esz = esz ∧ VecOK w σ esz m y.blk y.len y.cap := by
      rcases Nat.lt_or_ge i xinn.length with h | h
      · rw [List.getElem?_append_left h] at hy'
        rw [List.getElem?_append_left (by omega)] at hm
        exact hx3 i y m hy' hm
      · rw [List.getElem?_append_right h] at hy'
        rw [List.getElem?_append_right (by omega), ← hx2] at hm
        exact hy3 _ y m hy' hm
    exact ⟨this.1, this.2.step (PH.le.refl _) (fun _ _ h => h) (fun b hb => hw b (mem b hb hmem))⟩
  have hblks : ∀ (nb : Option Nat) (l c : Nat) (z : Option Addr), (⟨nb, 1, l, c, z, xinn ++ yb.inn⟩ : HB).blks = nb.toList ++ (innB xinn ++ innB yb.inn) := by
    intro nb l c z; simp [HB.blks, innB, List.filterMap_append]
  have hinm : ∀ b, b ∈ innB xinn ++ innB yb.inn → ofHs β hs b := fun b hb => (List.mem_append.1 hb).elim (fun h => hxb b (by simp [h])) (hyin b)
  by_cases hm0 : my = []
  ·
    subst hm0
    have hyi0 : yb.inn = [] := List.length_eq_zero_iff.1 (by simpa using hy2)
    have hcap : xlen ≤ xcap := by
      rcases hx4 with ⟨_, rfl, rfl⟩ | ⟨b, rest, _, _, _, hc, _⟩
      · simp [hx1]
      · omega
    refine ⟨_, w, ⟨xblk, 1, xlen, xcap, xz, xinn ++ yb.inn⟩, run_app_none hT hd he ty hRy hcap, g.succL hlive (Nat.le_refl _) ⟨rfl, rfl, rfl⟩ (fun _ _ _ => rfl) ?_ (mat_mk rfl (by rw [hblks]; exact hnd) ⟨by simp [hx1], by simp [hx2, hyi0], hin (fun _ _ => rfl), ?_⟩), rfl⟩
    · intro b hb
      rw [hblks, List.mem_append] at hb
      exact .inl (hb.elim (fun h => hxb b (by simp [h])) (hinm b))
    · rcases hx4 with ⟨h1, h2, h3⟩ | ⟨b, rest, h1, h2, h3, h4, h5⟩
      · exact .inl ⟨h1, by simp [h2], h3⟩
      · exact .inr ⟨b, rest, h1, h2, by simpa [hyi0] using h3, by simpa using h4, by simpa using h5⟩
  · have hmp : 0 < my.length := List.length_pos_iff.2 hm0
    by_cases hroom : mx.length + my.length ≤ xcap
    · rcases hx4 with ⟨_, rfl, rfl⟩ | ⟨b, rest, hb, hσ, ⟨hsc, T, hO⟩, hc, hl⟩
      · simp only [List.length_nil] at hroom; omega
      · subst hb
        have hrest : rest = rest.take my.length ++ rest.drop my.length := (List.take_append_drop _ _).symm
        have hrun := run_app_room (P := E.P) hT hd he ty hRy (b := b) (n := mx.length) (cap := xcap) (A := xinn.map HI.slice) (M := rest.take my.length) (C := rest.drop my.length) (T := T)
          (by rw [hO]; conv => lhs; rw [hrest]
              simp [List.append_assoc]) (by simp [hx2, hde]) (by rw [hfy, List.length_take, List.length_map, hy2]; omega) (by simpa using hroom)
        rw [hfy, List.length_replicate] at hrun
        have hblt := lt_of_get hO
        have hbin : b ∉ innB xinn ++ innB yb.inn := fun h => (List.nodup_append.1 hnd).2.2 b (by simp) b h rfl
        refine ⟨.slice (some ⟨b, 0, none⟩) (mx.length + my.length) xcap, put w b (.cells (xinn.map HI.slice ++ yb.inn.map HI.slice ++ rest.drop my.length).toArray T (0, 0)), ⟨some b, 1, mx.length + my.length, xcap, none, xinn ++ yb.inn⟩, by rw [hx1]; exact hrun, g.succL hlive (by simp) ⟨rfl, rfl, rfl⟩ ?_ ?_ (mat_mk rfl (by rw [hblks]; exact hnd) ⟨by simp, by simp [hx2, hy2], hin ?_, .inr ⟨b, rest.drop my.length, rfl, hσ, ⟨?_, T, ?_⟩, by simpa using hroom, ?_⟩⟩), by simp [HB.slice, adr]⟩
        · intro k _ hne; exact put_get_ne (by rintro rfl; exact hne (hxb k (by simp)))
        · intro k hk
          rw [hblks, List.mem_append] at hk
          exact .inl (hk.elim (fun h => hxb k (List.mem_append.2 (.inl h))) (hinm k))
        · intro k hk; exact put_get_ne (by rintro rfl; exact hbin hk)
        · intro u hu
          simp only [List.map_append, List.mem_append] at hu
          rcases hu with (hu | hu) | hu
          · exact hsc u (by simp [hu])
          · exact hRy.sc u (by rw [hfy]; exact hu)
          · exact hsc u (by simp [List.mem_of_mem_drop hu])
        · rw [put_get_same hblt]; simp
        · simp only [List.length_append, List.length_drop]; omega
    · obtain ⟨cap, hcap, hrun⟩ := run_app_grow (P := E.P) hT hd he ty hRy hRx (a := adr xblk xz) (xcap := xcap) (by simp [hx1]) (by simpa using hroom) (by simpa using hbd) (by simpa using h63)
      simp only [List.length_replicate] at hcap hrun
      rw [hfx, hfy] at hrun
      obtain ⟨hz1, hz2⟩ := okD_ok hok
      have hzl := zc_len de.zero.cells (cap - (mx.length + my.length))
      have hnew : ∀ b, b ∈ innB xinn ++ innB yb.inn → b < w.heap.size := fun b hb => by
        obtain ⟨h, hh, x, hx, hbx⟩ := hinm b hb; exact g.hp.lt h x b hx hbx
      refine ⟨_, _, ⟨some w.heap.size, 1, mx.length + my.length, cap, none, xinn ++ yb.inn⟩, hrun, g.succL hlive (by simp) ⟨rfl, rfl, rfl⟩ ?_ ?_ (mat_mk rfl ?_ ⟨by simp, by simp [hx2, hy2], hin ?_, .inr ⟨w.heap.size, (Builtin.zeroCells de.zero.cells (cap - (mx.length + my.length))).toList, rfl, g.hp.no (Nat.le_refl _), ⟨?_, e, ?_⟩, by simpa using hcap, ?_⟩⟩), by simp [HB.slice, adr]⟩
      · intro b hb _; exact heap_alloc_lt w.drew _ hb
      · intro b hb
        rw [hblks, List.mem_append] at hb
        rcases hb with hb | hb
        · simp at hb; subst hb; exact .inr ⟨Nat.le_refl _, by simp⟩
        · exact .inl (hinm b hb)
      · rw [hblks]
        refine List.nodup_append.2 ⟨by simp, (List.nodup_append.1 hnd).2.1, ?_⟩
        intro b hb b' hb' e
        simp at hb; have := hnew b' hb'; omega
      · intro b hb; exact heap_alloc_lt w.drew _ (hnew b hb)
      · intro u hu
        simp only [List.map_append, List.mem_append] at hu
        rcases hu with (hu | hu) | hu
        · exact hRx.sc u (by rw [hfx]; exact hu)
        · exact hRy.sc u (by rw [hfy]; exact hu)
        · exact zeroCells_sc hz2 _ u hu
      · rw [show w.heap.size = w.drew.heap.size from rfl, heap_alloc_new]
        congr 2
        apply Array.ext'
        simp
      · rw [hzl, hz1, hde]; simp; omega
theorem appM_ok {E:Env} {w0 σ0 β0 nt σ β S a w} (g:GG w0 σ0 β0 nt σ β S a w) (hfx:E.free=nt.free) {t e:Nat} {d de:TyD} (hT:TyOK E.P t d) (hd:d.desc= .slice e) (he:TyOK E.P e de) (hok:okD de=true)
  {x:SV} {vx vy:Value} {hy esz:Nat} {my:List (List (List SV))} {k:SS→SV→Prop} (ty:TypeId) (h:appM E S de x hy esz my k) (hx:rel σ β x vx) (hyv:rel σ β (.vec hy) vy) (hyc:S.own[hy]? =some (.mat esz my)):
  ∃v w' β' S' s,(Builtin.append_ #[t,t] ty #[vx,vy]).run E.P w= .ok v w'∧GG w0 σ0 β0 nt σ β' S' a w'∧rel σ β' s v∧k S' s:=by
 have hown:=g.hp.len
 unfold appM at h
 split at h
 ·exact h.elim
 rename_i hg
 rw [Bool.and_eq_true]at hg
 have hde:=Nat.eq_of_beq_eq_true hg.1
 have hfy:=hg.2
 rw [hfx]at hfy
 simp only [rel]at hyv
 obtain⟨yb,hyb,rfl⟩:=hyv
 have hYc:=g.hp.ok _ _ _ hyc hyb
 have hY:=mat_ok hYc
 have hYn:=hYc.2.2.1
 have fin:∀{v:Value} {x':HB} {own':List Chunk} {w':World},own'.length=S.own.length+1→v=x'.slice→GG w0 σ0 β0 nt σ (β++[x']) ⟨S.tm,own'⟩ a w'→rel σ (β++[x']) (.vec S.own.length) v:=by
  intro v x' own' w' _ hv _
  simp only [rel];exact⟨x',by rw [←hown];simp,hv⟩
 split at h
 ·obtain⟨⟨hb,h63⟩,hk⟩:=h
  have hk:=forceN_ok hk
  simp only [forceL_eq,SS.withTm_eq]at hk
  simp only [rel]at hx;subst hx
  obtain⟨v,w',x',hrun,hg',hv⟩:=app_mat (E:=E) g hT hd he hok hde (mx:=[]) (xblk:=none) (xlen:=0) (xcap:=0) (xinn:=[]) none ⟨rfl,rfl,by simp, .inl ⟨rfl,rfl,rfl⟩⟩ hyb hY (hs:=[hy])
   (by intro h hm;simp at hm;subst hm;exact⟨hfy,_,hyc,rfl⟩) (by simp) (by simp [innB]) (by simpa [innB]using(List.nodup_append.1 hYn).2.1) (by simpa using hb) (by simpa using h63) ty
  exact⟨v,w',_,_,_,hrun,hg',fin (by simp [killL]) hv hg',hk⟩
 ·rename_i hx'
  split at h
  ·exact h.elim
  rename_i hg2
  rw [Bool.and_eq_true]at hg2
  have hfx':=hg2.1
  rw [hfx]at hfx'
  have hne:hx'≠hy:=by
   have:=hg2.2;intro e;subst e;simp [Nat.beq_refl]at this
  simp only [rel]at hx
  obtain⟨xb,hxb,rfl⟩:=hx
  have hlive:∀{c},S.own[hx']? =some c→live c=true→∀h∈[hx',hy],nt.free h=true∧∃c,S.own[h]? =some c∧live c=true:=by
   intro c hc hl h hm
   simp at hm
   rcases hm with rfl|rfl
   ·exact⟨hfx',_,hc,hl⟩
   ·exact⟨hfy,_,hyc,rfl⟩
  split at h
  ·rename_i e' mx hxc
   split at h
   ·rename_i hes
    have hes:=Nat.eq_of_beq_eq_true hes;subst hes
    obtain⟨⟨hb,h63⟩,hk⟩:=h
    have hk:=forceN_ok hk
    simp only [forceL_eq,SS.withTm_eq]at hk
    have hXc:=g.hp.ok _ _ _ hxc hxb
    have hXn:=hXc.2.2.1
    obtain⟨v,w',x',hrun,hg',hv⟩:=app_mat (E:=E) g hT hd he hok hde xb.z (mat_ok hXc) hyb hY (hs:=[hx',hy]) (hlive hxc rfl) (by simp)
     (by intro b hb;exact⟨hx',by simp,xb,hxb,hb⟩) (by
      rw [←List.append_assoc]
      refine List.nodup_append.2 ⟨hXn,(List.nodup_append.1 hYn).2.1,?_⟩
      rintro b hb b' hb' rfl
      exact hne (g.hp.apart hx' hy _ _ xb yb b hxc hyc rfl rfl hxb hyb hb (by simp only [HB.blks,List.mem_append];exact .inr hb'))) hb h63 ty
    exact⟨v,w',_,_,_,hrun,hg',fin (by simp [killL]) hv hg',hk⟩
   ·exact h.elim
  ·rename_i e' mx hxc
   split at h
   ·rename_i hes
    have hes:=Nat.eq_of_beq_eq_true hes;subst hes
    obtain⟨rfl,⟨hb,h63⟩,hk⟩:=h
    have hk:=forceN_ok hk
    simp only [forceL_eq,SS.withTm_eq]at hk
    have hXc:=g.hp.ok _ _ _ hxc hxb
    obtain⟨v,w',x',hrun,hg',hv⟩:=app_mat (E:=E) g hT hd he hok hde xb.z (vec_mat hXc esz) hyb hY (hs:=[hx',hy]) (hlive hxc rfl) (by simp)
     (by intro b hb;simp [innB]at hb;exact⟨hx',by simp,xb,hxb,HB.blk_mem hb⟩) (by
      simp only [innB,List.filterMap_nil,List.nil_append]
      refine List.nodup_append.2 ⟨by cases xb.blk<;>simp,(List.nodup_append.1 hYn).2.1,?_⟩
      rintro b hb b' hb' rfl
      exact hne (g.hp.apart hx' hy _ _ xb yb b hxc hyc rfl rfl hxb hyb (HB.blk_mem (by simpa using hb)) (by simp only [HB.blks,List.mem_append];exact .inr hb'))) (by simpa using hb) (by simpa using h63) ty
    exact⟨v,w',_,_,_,hrun,hg',fin (by simp [killL]) hv hg',hk⟩
   ·exact h.elim
  ·exact h.elim
 ·exact h.elim
theorem appR_ok {E:Env} {w0 σ0 β0 nt σ β S a w} (g:GG w0 σ0 β0 nt σ β S a w) (hfx:E.free=nt.free) {t e:Nat} {d de:TyD} (hT:TyOK E.P t d) (hd:d.desc= .slice e) (he:TyOK E.P e de) (hok:okD de=true)
  {x:SV} {vx vy:Value} {yr:List (List SV)} {vss:List (List Value)} {k:SS→SV→Prop} (ty:TypeId) (h:appR E S de x yr k) (hx:rel σ β x vx) (hR:Reads σ w de.size yr vy vss):
  ∃v w' β' S' s,(Builtin.append_ #[t,t] ty #[vx,vy]).run E.P w= .ok v w'∧GG w0 σ0 β0 nt σ β' S' a w'∧rel σ β' s v∧k S' s:=by
 unfold appR at h
 split at h
 ·rename_i hh ii
  split at h
  ·exact h.elim
  ·rename_i hf
   split at h
   ·rename_i esz ms hc
    obtain⟨rows,hi,hk⟩:=h
    have hk:=forceN_ok hk
    have hk:=forceN_ok hk
    have hk:=forceT_ok hk
    rw [forceO_eq]at hk
    obtain⟨β',g',hr'⟩:=g.takeRow hc hi (by rw [←hfx];exact hf) hx
    exact appV_ok g' hfx hT hd he hok ty hk hr' hR
   ·exact h.elim
 ·exact appV_ok g hfx hT hd he hok ty h hx hR
theorem appS_ok {E:Env} (hE:EnvOK E) {w0 σ0 β0 nt σ β S a w} (g:GG w0 σ0 β0 nt σ β S a w) (hfx:E.free=nt.free) {t:Nat} {x y:SV} {vx vy:Value} {k:SS→SV→Prop} (ty:TypeId)
  (h:appS E S t x y k) (hx:rel σ β x vx) (hy:rel σ β y vy):
  ∃v w' β' S' s,(Builtin.append_ #[t,t] ty #[vx,vy]).run E.P w= .ok v w'∧GG w0 σ0 β0 nt σ β' S' a w'∧rel σ β' s v∧k S' s:=by
 obtain⟨de,hde,h⟩:=need_some h
 obtain⟨d,e,hT,hd,he⟩:=elemD_ok hE hde
 split at h
 ·exact h.elim
 rename_i hok
 cases hm:matOf S y with
 |none=>
  rw [hm]at h
  obtain⟨yr,vss,hR,hk⟩:=rowsK_ok g h hy
  exact appR_ok g hfx hT hd he hok ty hk hx hR
 |some p=>
  obtain⟨hh,ee,my⟩:=p
  rw [hm]at h
  unfold matOf at hm
  split at hm
  ·split at hm
   ·rename_i hc;cases hm
    exact appM_ok g hfx hT hd he hok ty h hx hy hc
   ·cases hm
  ·cases hm
end Go.Sx
end
