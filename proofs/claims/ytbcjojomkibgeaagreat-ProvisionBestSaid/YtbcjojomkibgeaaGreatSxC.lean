/- Lemmas of this seat. Conditions: as stated. -/
import Derived.Test.YtbcjojomkibgeaaGreatSxB
import Derived.OrdersHeld
import Derived.Scope
import Derived.ChangeSame
import Derived.ChangeArms
import Derived.ChangeSlices
import Derived.RowKit
import Derived.OpenShut
set_option linter.unusedVariables false
set_option linter.unusedSimpArgs false
section
namespace Go.Sx
def minS (kd:IntKind) (x:Int) (k:SV→Prop):List SV→Prop
 |[]=>k (.num kd x)
 |.num kb y::r=>same kd kb (minS kd (min x y) k r)
 |_=>False
def maxS (kd:IntKind) (x:Int) (k:SV→Prop):List SV→Prop
 |[]=>k (.num kd x)
 |.num kb y::r=>same kd kb (maxS kd (max x y) k r)
 |_=>False
def extS (mx:Bool) (l:List SV) (k:SV→Prop):Prop:=
 match l with
 |.num kd x::r=>match mx with|true=>maxS kd x k r|false=>minS kd x k r
 |_=>False
theorem minS_ok {P:Program} {σ β} {k:SV→Prop} {kd:IntKind}:∀(l:List SV) (vs:List Value) (x:Int),minS kd x k l→relL σ β l vs→
  ∃v s,(∀w,(vs.foldlM Builtin.min2 (.int kd x)).run P w= .ok v w)∧rel σ β s v∧k s
 |[],vs,x,h,hr=>by simp only [relL]at hr;subst hr;exact⟨.int kd x,_,(fun w=>by simp),by simp only [rel],h⟩
 |s::l,vs,x,h,hr=>by
  simp only [relL]at hr;obtain⟨v,vs',rfl,h1,h2⟩:=hr
  cases s<;>simp only [minS]at h<;>try exact h.elim
  rename_i kb y
  obtain⟨e0,hq⟩:=same_ok h
  clear h
  subst e0
  have h:=hq
  simp only [rel]at h1;subst h1
  obtain⟨u,s',e,h3,h4⟩:=minS_ok (P:=P) l vs' _ h h2
  refine⟨u,s',fun w=>?_,h3,h4⟩
  have:(if y<x then y else x)=min x y:=by split<;>omega
  simp [Builtin.min2,this,e]
theorem maxS_ok {P:Program} {σ β} {k:SV→Prop} {kd:IntKind}:∀(l:List SV) (vs:List Value) (x:Int),maxS kd x k l→relL σ β l vs→
  ∃v s,(∀w,(vs.foldlM Builtin.max2 (.int kd x)).run P w= .ok v w)∧rel σ β s v∧k s
 |[],vs,x,h,hr=>by simp only [relL]at hr;subst hr;exact⟨.int kd x,_,(fun w=>by simp),by simp only [rel],h⟩
 |s::l,vs,x,h,hr=>by
  simp only [relL]at hr;obtain⟨v,vs',rfl,h1,h2⟩:=hr
  cases s<;>simp only [maxS]at h<;>try exact h.elim
  rename_i kb y
  obtain⟨e0,hq⟩:=same_ok h
  clear h
  subst e0
  have h:=hq
  simp only [rel]at h1;subst h1
  obtain⟨u,s',e,h3,h4⟩:=maxS_ok (P:=P) l vs' _ h h2
  refine⟨u,s',fun w=>?_,h3,h4⟩
  have:(if x<y then y else x)=max x y:=by split<;>omega
  simp [Builtin.max2,this,e]
def lenS (E:Env) (S:SS) (t:Nat) (x:SV) (k:SV→Prop):Prop:=
 need (look E.tys t) fun d=>
  match d.desc with
  |.slice _=>match x with
   |.nil =>k (.num .i64 0)
   |.psl _ rows=>k (.num .i64 rows.length)
   |.ful _ rows=>k (.num .i64 rows.length)
   |.vec h=>match S.own[h]? with
    |some (.vec _ rows)=>k (.num .i64 rows.length)
    |some (.mat _ ms)=>k (.num .i64 ms.length)
    |_=>False
   |.row h i=>match S.own[h]? with
    |some (.mat _ ms)=>∃m,ms[i]? =some m∧k (.num .i64 m.length)
    |_=>False
   |_=>False
  |.string =>match x with
   |.str s=>k (.num .i64 s.size)
   |_=>False
  |_=>False
def bltS (E:Env) (S:SS) (b:Builtin) (ts:List Nat) (xs:List SV) (k:SV→Prop):Prop:=
 match b with
 |.len =>match ts,xs with
  |[t],[x]=>lenS E S t x fun s=>k s
  |_,_=>False
 |.min =>extS false xs fun s=>k s
 |.max =>extS true xs fun s=>k s
 |_=>False
def apdS (E:Env) (S:SS) (ts:List Nat) (xs:List SV) (k:SS→SV→Prop):Prop:=
 match ts,xs with
 |[t,t'],[x,y]=>match Nat.beq t t' with
  |true=>appS E S t x y k
  |false=>False
 |_,_=>False
def evL (S:SS):List Operand→List SV
 |[]=>[]
 |x::l=>nrm S.own (S.ev x)::evL S l
def evP (S:SS) (o:Option Operand) (k:Option SV→Prop):Prop:=
 match o with
 |none=>k none
 |some x=>S.evN x fun s=>k (some s)
def neB (op:BinOp):Bool:=
 match op with
 |.neq =>true
 |_=>false
inductive EqnOb (rows:List (List SV)) (op:BinOp) (k:SV→Prop):Prop
 |ne (h:rows≠[]) (hk:k (.bl (neB op)))
 |unk (hk:∀p:Prop,k (.bp p))
def isEq (op:BinOp):Bool:=
 match op with
 |.eql =>true
 |.neq =>true
 |_=>false
def eqnS (E:Env) (S:SS) (op:BinOp) (t:Nat) (x:SV) (k:SV→Prop):Prop:=
 match isEq op with
 |true=>need (look E.tys t) fun d=>match d.desc with
  |.slice _=>match x with
   |.nil =>k (.bl (!neB op))
   |.psl _ rows=>EqnOb rows op k
   |.ful _ rows=>EqnOb rows op k
   |.vec h=>match S.own[h]? with
    |some (.vec _ rows)=>EqnOb rows op k
    |some (.mat _ ms)=>EqnOb (ms.map fun _=>[]) op k
    |_=>False
   |_=>False
  |_=>False
 |false=>False
theorem eqn_run {P:Program} {t e:Nat} (hu:P.underlying t=some (.slice e)) (a:Option Addr) (n c:Nat) (w:World):
  (Op.equal t (.slice a n c) (.slice none 0 0)).run P w= .ok a.isNone w∧(Op.equal t (.slice none 0 0) (.slice a n c)).run P w= .ok a.isNone w:=by
 have hm:Op.maxDepth=Nat.succ 9999:=rfl
 constructor
 ·unfold Op.equal;rw [hm,Op.equalIn];cases a<;>simp [run_underlying hu]
 ·unfold Op.equal;rw [hm,Op.equalIn];cases a<;>simp [run_underlying hu]
theorem eqnS_ok {E:Env} (hE:EnvOK E) {w0 σ0 β0 nt σ β S a w} (g:GG w0 σ0 β0 nt σ β S a w) {op:BinOp} {t:Nat} {sx:SV} {v:Value} {k:SV→Prop} (h:eqnS E S op t sx k) (hr:rel σ β sx v) (x y:Operand):
  (∃u s,(∀w,(do eqGuard op t x y v (.slice none 0 0);binOp op t v (.slice none 0 0):Sem Value).run E.P w= .ok u w)∧rel σ β s u∧k s)∧
  (∃u s,(∀w,(do eqGuard op t x y (.slice none 0 0) v;binOp op t (.slice none 0 0) v:Sem Value).run E.P w= .ok u w)∧rel σ β s u∧k s):=by
 unfold eqnS at h
 split at h
 ·rename_i hop
  obtain⟨d,hd,h1⟩:=need_some h
  have hu:=(look_ok hE hd).2
  split at h1
  ·rename_i e hdesc
   rw [hdesc]at hu
   have run1:∀(ad:Option Addr) (n c:Nat),v= .slice ad n c→∀w,(do eqGuard op t x y v (.slice none 0 0);binOp op t v (.slice none 0 0):Sem Value).run E.P w= .ok (.bool (neB op != ad.isNone)) w:=by
    rintro ad n c rfl w
    have:=eqn_run hu ad n c w
    cases op<;>simp [isEq]at hop<;>simp [eqGuard,binOp,this.1,neB]
   have run2:∀(ad:Option Addr) (n c:Nat),v= .slice ad n c→∀w,(do eqGuard op t x y (.slice none 0 0) v;binOp op t (.slice none 0 0) v:Sem Value).run E.P w= .ok (.bool (neB op != ad.isNone)) w:=by
    rintro ad n c rfl w
    have:=eqn_run hu ad n c w
    cases op<;>simp [isEq]at hop<;>simp [eqGuard,binOp,this.2,neB]
   have fin:∀(ad:Option Addr) (n c:Nat) (s:SV),v= .slice ad n c→rel σ β s (.bool (neB op != ad.isNone))→k s→
     (∃u s,(∀w,(do eqGuard op t x y v (.slice none 0 0);binOp op t v (.slice none 0 0):Sem Value).run E.P w= .ok u w)∧rel σ β s u∧k s)∧
     (∃u s,(∀w,(do eqGuard op t x y (.slice none 0 0) v;binOp op t (.slice none 0 0) v:Sem Value).run E.P w= .ok u w)∧rel σ β s u∧k s):=
    fun ad n c s hv hr hk=>⟨⟨_,s,run1 ad n c hv,hr,hk⟩,⟨_,s,run2 ad n c hv,hr,hk⟩⟩
   have ob:∀(rows:List (List SV)) (ad:Option Addr) (n c:Nat),v= .slice ad n c→(rows≠[]→ad≠none)→EqnOb rows op k→
     (∃u s,(∀w,(do eqGuard op t x y v (.slice none 0 0);binOp op t v (.slice none 0 0):Sem Value).run E.P w= .ok u w)∧rel σ β s u∧k s)∧
     (∃u s,(∀w,(do eqGuard op t x y (.slice none 0 0) v;binOp op t (.slice none 0 0) v:Sem Value).run E.P w= .ok u w)∧rel σ β s u∧k s):=by
    intro rows ad n c hv hne hob
    cases hob with
    |ne h hk=>
     have:=hne h
     refine fin ad n c _ hv ?_ hk
     simp only [rel]
     cases ad with
     |none=>exact absurd rfl this
     |some ad=>simp
    |unk hk=>
     refine fin ad n c (.bp ((neB op != ad.isNone)=true)) hv ?_ (hk _)
     simp only [rel];exact⟨_,rfl,Iff.rfl⟩
   split at h1
   ·simp only [rel]at hr
    refine fin none 0 0 _ hr ?_ h1
    simp only [rel]
    simp
   ·rename_i esz rows
    simp only [rel]at hr
    obtain⟨ad,cap,vss,hv,_,_,_,hd⟩:=hr
    refine ob rows ad _ cap hv (fun h=>?_) h1
    rcases hd with hd|⟨b,off,rfl,_⟩
    ·exact absurd hd h
    ·simp
   ·rename_i esz rows
    simp only [rel]at hr
    obtain⟨ad,vss,hv,_,_,hd⟩:=hr
    refine ob rows ad _ _ hv (fun h=>?_) h1
    rcases hd with hd|⟨b,off,rfl,_⟩
    ·exact absurd hd h
    ·simp
   ·rename_i hh
    clear h
    split at h1
    ·rename_i esz rows hc
     simp only [rel]at hr
     obtain⟨y,hy,hv⟩:=hr
     obtain⟨_,_,_,h4⟩:=g.hp.ok _ _ _ hc hy
     refine ob rows _ _ _ hv (fun h=>?_) h1
     rcases h4 with⟨_,h5,_⟩|⟨b,_,_,h5,_⟩
     ·exact absurd h5 h
     ·rw [h5];simp [adr]
    ·rename_i esz ms hc
     simp only [rel]at hr
     obtain⟨y,hy,hv⟩:=hr
     obtain⟨_,_,_,_,_,h6⟩:=g.hp.ok _ _ _ hc hy
     refine ob (ms.map fun _=>[]) _ _ _ hv (fun h=>?_) h1
     rcases h6 with⟨_,h5,_⟩|⟨b,_,h5,_⟩
     ·subst h5;simp at h
     ·rw [h5];simp [adr]
    ·exact h1.elim
   ·exact h1.elim
  ·exact h1.elim
 ·exact h.elim
def isMat' (S:SS) (h:Nat):Bool:=
 match S.own[h]? with
 |some (.mat _ _)=>true
 |some (.hol _ _ _)=>true
 |_=>false
def eqbS (E:Env) (op:BinOp) (t:Nat) (p q:Prop) (k:SV→Prop):Prop:=
 match isEq op with
 |true=>need (look E.tys t) fun d=>match d.desc with
  |.bool =>match neB op with
   |true=>k (.bp (¬(p↔q)))
   |false=>k (.bp (p↔q))
  |_=>False
 |false=>False
theorem eqb_run {P:Program} {t:Nat} (hu:P.underlying t=some .bool) (c d:Bool) (w:World):(Op.equal t (.bool c) (.bool d)).run P w= .ok (c==d) w:=by
 have hm:Op.maxDepth=Nat.succ 9999:=rfl
 unfold Op.equal;rw [hm,Op.equalIn];simp [run_underlying hu]
theorem eqbS_ok {E:Env} (hE:EnvOK E) {op:BinOp} {t:Nat} {p q:Prop} {σ:PH} {β:List HB} {a b:Value} {k:SV→Prop} (h:eqbS E op t p q k) (ha:rel σ β (.bp p) a) (hb:rel σ β (.bp q) b) (x y:Operand):
  ∃u s,(∀w,(do eqGuard op t x y a b;binOp op t a b:Sem Value).run E.P w= .ok u w)∧rel σ β s u∧k s:=by
 simp only [rel]at ha hb
 obtain⟨c,rfl,hc⟩:=ha
 obtain⟨d,rfl,hd⟩:=hb
 unfold eqbS at h
 split at h
 ·rename_i hop
  obtain⟨D,hD,h1⟩:=need_some h
  have hu:=(look_ok hE hD).2
  split at h1
  ·rename_i hdesc
   rw [hdesc]at hu
   have hr:=eqb_run hu c d
   split at h1
   ·rename_i hne
    refine⟨.bool (!(c==d)),_,fun w=>?_,?_,h1⟩
    ·cases op<;>simp [isEq]at hop<;>simp [neB]at hne<;>simp [eqGuard,binOp,hr]
    ·simp only [rel];exact⟨_,rfl,by rw [←hc,←hd];cases c<;>cases d<;>simp⟩
   ·rename_i hne
    refine⟨.bool (c==d),_,fun w=>?_,?_,h1⟩
    ·cases op<;>simp [isEq]at hop<;>simp [neB]at hne<;>simp [eqGuard,binOp,hr]
    ·simp only [rel];exact⟨_,rfl,by rw [←hc,←hd];cases c<;>cases d<;>simp⟩
  ·exact h1.elim
 ·exact h.elim
theorem bl_bp {σ β} {b:Bool} {v:Value} (h:rel σ β (.bl b) v):rel σ β (.bp (b=true)) v:=by
 simp only [rel]at*;exact⟨b,h,Iff.rfl⟩
def binN (E:Env) (S:SS) (op:BinOp) (t:Nat) (sx sy:SV) (k:SV→Prop):Prop:=
 match sy with
 |.nil =>eqnS E S op t sx k
 |.bp q=>match sx with
  |.bp p=>eqbS E op t p q k
  |.bl b=>eqbS E op t (b=true) q k
  |_=>False
 |.bl c=>match sx with
  |.bp p=>eqbS E op t p (c=true) k
  |.bl b=>eqbS E op t (b=true) (c=true) k
  |_=>False
 |.agg ys=>match sx with
  |.agg xs=>eqaS E op t xs ys k
  |_=>False
 |sy=>match sx with
  |.nil =>eqnS E S op t sy k
  |sx=>binS op sx sy k
def valS (E:Env) (S:SS) (op:Op) (k:SV→Prop):Prop:=
 match op with
 |.move x=>S.evN x k
 |.assign x=>S.evN x fun s=>match s with
  |.nil =>False
  |s=>k s
 |.pick c x y=>S.evN c fun s=>match s with
  |.bl true=>S.evN x k
  |.bl false=>S.evN y k
  |.bp p=>CondOb p (S.evN x k) (S.evN y k)
  |_=>False
 |.build t parts=>stcS E S t parts.toList k
 |.load T x=>S.evN x fun s=>loadS E S T s k
 |.nilCheck x=>S.evN x fun s=>match s with
  |.ptr h off=>k (.ptr h off)
  |.elt h i off=>k (.elt h i off)
  |.elt2 h i j off=>k (.elt2 h i j off)
  |.pptr cs=>k (.pptr cs)
  |.fn f cs=>k (.fn f cs)
  |.ifc t s=>k (.ifc t s)
  |_=>False
 |.binOp op t x y _=>S.evN x fun sx=>S.evN y fun sy=>binN E S op t sx sy k
 |.unOp op _ x=>S.evN x fun s=>match op,s with
  |.not, .bp p=>k (.bp (¬p))
  |.not, .bl true=>k (.bl false)
  |.not, .bl false=>k (.bl true)
  |.neg, .num kd n=>arith kd (0-n) fun r=>k (.num kd r)
  |_,_=>False
 |.convert s t x=>need (look E.tys s) fun ds=>need (look E.tys t) fun d=>S.evN x fun v=>match d.desc,v with
  |.int kd, .num _ n=>arith kd n fun r=>k (.num kd r)
  |.string, .str s=>k (.str s)
  |_,_=>False
 |.index t x i=>S.evN x fun sx=>S.evN i fun si=>indexVS E t sx si k
 |.makeInterface t x=>need (look E.tys t) fun d=>match notIfc d.desc with
  |true=>S.evN x fun s=>k (.ifc t s)
  |false=>False
 |.makeFunc fn first caps=>match fn,first.toList with
  |.func f,[]=>forceVL (evL S caps.toList) fun l=>k (.fn f l)
  |.func f,first=>match caps.toList with
   |[]=>forceVL (evL S first) fun l=>k (.fnb f l)
   |_=>False
  |_,_=>False
 |.slice t x lo hi mx=>S.evN x fun sx=>evP S lo fun lo=>evP S hi fun hi=>evP S mx fun mx=>sliceS E t sx lo hi mx k
 |.fieldAddr t x f=>S.evN x fun s=>fieldS E t f s k
 |.field t x f=>need (look E.tys t) fun d=>S.evN x fun s=>match d.desc,s with
  |.struct fs, .agg l=>need fs[f]? fun fl=>need (look E.tys fl.type) fun df=>need (sub (aggD df.desc) df.size fl.offset l) fun s=>forceV s k
  |_,_=>False
 |.indexAddr t x i=>S.evN x fun sx=>S.evN i fun si=>indexS E S t sx si k
 |.extract x i=>S.evN x fun s=>match s with
  |.tup l=>need l[i]? fun s=>forceV s k
  |_=>False
 |.call c=>match c.callee with
  |.builtin b=>forceVL (evL S c.args.toList) fun l=>bltS E S b c.argTypes.toList l k
  |_=>False
 |_=>False
def baOf (ns:List Int):ByteArray:=ns.foldl (fun r n=>r.push (UInt8.ofNat n.toNat)) ByteArray.empty
def isStr:TypeDesc→Bool
 |.string =>true
 |_=>false
def convS (E:Env) (S:SS) (s t:Nat) (x:SV) (k:SV→Prop):Prop:=
 need (elemD E s) fun de=>need (look E.tys t) fun d=>match isStr d.desc,de.desc with
  |true, .int .u8 =>rowsK S 1 x fun rows=>∃ns:List Int,rows=ns.map (fun n=>[.num .u8 n])∧k (.str (baOf ns))
  |_,_=>False
inductive InvOb (P:Program) (t:Nat) (name:String) (K:Nat→Prop):Prop
 |mk (f:Nat) (h:methodIs P t name=some f) (hk:K f):InvOb P t name K
inductive AllocOb (cs:List SV) (A:Prop) (B:Nat→List (List SV)→Prop):Prop
 |box (a:A):AllocOb cs A B
 |vec (e k:Nat) (zr:List SV) (h:cs=(List.replicate k zr).flatten) (hl:zr.length=e) (hc:closedL zr=true) (b:B e (List.replicate k zr)):AllocOb cs A B
def isArr:TypeDesc→Bool
 |.array _ _=>true
 |_=>false
def isVecElt (S:SS) (x y:SV):Bool:=
 match x with
 |.elt h _ _=>match isMat' S h with
  |true=>false
  |false=>match y with
   |.vec _=>true
   |.agg l=> !(closedL l)
   |_=>false
 |_=>false
def openP (S:SS):List (Nat×Operand)→Bool
 |[]=>false
 |(_,x)::ps=>match nrm S.own (S.ev x)with
  |.agg l=>match closedL l with
   |true=>openP S ps
   |false=>true
  |.fn _ l=>match closedL l with
   |true=>openP S ps
   |false=>true
  |.vec _=>true
  |_=>openP S ps
def ghosted (E:Env) (S:SS) (x:SV) (k:SS→Prop):Prop:=
 match x with
 |.vec _=>Gh E.npre E.nm k S
 |_=>k S
def storeM (E:Env) (S:SS) (T h:Nat) (i hr:Nat) (k:SS→Prop):Prop:=
 need (look E.tys T) fun d=>match isSl d.desc && Nat.beq d.size 1 && E.free h && E.free hr && !(Nat.beq h hr)with
  |true=>match S.own[h]? with
   |some (.mat esz ms)=>match S.own[hr]? with
    |some (.vec e rows)=>match Nat.beq e esz with
     |true=>i<ms.length∧forceN S.own.length fun n=>forceT (rpT h n S.tm) fun tm=>forceO (rpO h n (killL [h,hr] S.own++[.mat esz (ms.set i rows)])) fun own=>k ⟨tm,own⟩
     |false=>False
    |_=>False
   |some (.hol esz ms q)=>match S.own[hr]? with
    |some (.vec e rows)=>match Nat.beq e esz with
     |true=>i=q∧forceN S.own.length fun n=>forceT (rpT h n S.tm) fun tm=>forceO (rpO h n (killL [h,hr] S.own++[.mat esz (ms.set i rows)])) fun own=>k ⟨tm,own⟩
     |false=>False
    |_=>False
   |_=>False
  |false=>False
def storeR (E:Env) (S:SS) (T:Nat) (sx sy:SV) (k:SS→Prop):Prop:=
 match sx with
 |.elt h i off=>match isMat' S h with
  |true=>match sy with
   |.vec hr=>match Nat.beq off 0 with
    |true=>storeM E S T h i hr k
    |false=>False
   |_=>False
  |false=>storeS E S T (.elt h i off) sy fun own=>S.withTm fun tm=>k ⟨tm,own⟩
 |sx=>storeS E S T sx sy fun own=>S.withTm fun tm=>k ⟨tm,own⟩
def slcK (E:Env) (S:SS) (t:Nat) (x:Operand) (lo hi mx:Option Operand) (k:SS→SV→Prop):Prop:=
 S.evN x fun sx=>evP S lo fun lo=>evP S hi fun hi=>match sx with
  |.vec h=>match mx with
   |none=>sliceV E S t h lo hi k
   |some _=>evP S mx fun mx=>sliceM E S t h lo hi mx k
  |sx=>evP S mx fun mx=>sliceS E t sx lo hi mx fun s=>k S s
inductive AsgOb (A B:Prop):Prop
 |vec (a:A):AsgOb A B
 |nil (b:B):AsgOb A B
def stepS (E:Env) (S:SS) (o:Oper) (K:SS→Prop):Prop:=
 match o.op with
 |.assign x=>S.evN x fun s=>match s with
  |.nil =>AsgOb (need (elemD E o.type) fun de=>forceN S.own.length fun n=>forceL (S.own++[.vec de.size []]) fun own=>S.withTm fun tm=>SS.setK ⟨tm,own⟩ o.dst ((.vec n)) K) (S.setK o.dst .nil K)
  |s=>S.setK o.dst (s) K
 |.alloc T=>need (look E.tys T) fun d=>need (ofV d.zero).cells fun cs=>forceVL cs fun cs=>forceN S.own.length fun n=>match isArr d.desc with
  |false=>forceL (S.own++[.box cs]) fun own=>S.withTm fun tm=>SS.setK ⟨tm,own⟩ o.dst ((.ptr n 0)) K
  |true=>AllocOb cs (forceL (S.own++[.box cs]) fun own=>S.withTm fun tm=>SS.setK ⟨tm,own⟩ o.dst ((.ptr n 0)) K) (fun e rows=>forceL (S.own++[.vec e rows]) fun own=>S.withTm fun tm=>SS.setK ⟨tm,own⟩ o.dst ((.elt n 0 0)) K)
 |.box _ x=>S.evN x fun s=>need s.cells fun cs=>forceVL cs fun cs=>forceN S.own.length fun n=>forceL (S.own++[.box cs]) fun own=>S.withTm fun tm=>SS.setK ⟨tm,own⟩ o.dst ((.ptr n 0)) K
 |.buildSlice t len parts=>match openP S parts.toList with
  |true=>Gh E.npre E.nm (fun S=>litS E S t len parts.toList fun S' s=>S'.setK o.dst (s) K) S
  |false=>litS E S t len parts.toList fun S' s=>S'.setK o.dst (s) K
 |.store T x y=>S.evN x fun sx=>S.evN y fun sy=>match isVecElt S sx sy with
  |true=>Gh E.npre E.nm (fun S=>S.evN x fun sx=>S.evN y fun sy=>storeR E S T sx sy fun S=>S.setK o.dst (.any) K) S
  |false=>storeR E S T sx sy fun S=>S.setK o.dst (.any) K
 |.makeMap t r=>match r with
  |none=>mkMapK E S t fun S s=>S.setK o.dst s K
  |some _=>False
 |.mapUpdate t m i v=>S.evN m fun sm=>S.evN i fun si=>S.evN v fun sv=>putK E S t sm si sv fun own=>S.withTm fun tm=>SS.setK ⟨tm,own⟩ o.dst .any K
 |.insert t m i v=>S.evN m fun sm=>S.evN i fun si=>S.evN v fun sv=>putK E S t sm si sv fun own=>S.withTm fun tm=>SS.setK ⟨tm,own⟩ o.dst .any K
 |.lookup t x i ok=>S.evN x fun sx=>S.evN i fun si=>lookK E S t sx si ok fun s=>S.setK o.dst s K
 |.convert s t x=>S.evN x fun v=>match v with
  |.num _ _=>valS E S o.op fun s=>S.setK o.dst s K
  |.str _=>valS E S o.op fun s=>S.setK o.dst s K
  |v=>convS E S s t v fun s=>S.setK o.dst s K
 |.makeSlice t l c=>S.evN l fun sl=>S.evN c fun sc=>makeS E S t sl sc fun S' s=>S'.setK o.dst (s) K
 |.slice t x lo hi mx=>S.evN x fun sx=>ghosted E S sx fun S=>slcK E S t x lo hi mx fun S s=>S.setK o.dst (s) K
 |.call c=>match c.callee with
  |.builtin .append =>forceVL (evL S c.args.toList) fun l=>apdS E S c.argTypes.toList l fun S' s=>S'.setK o.dst (s) K
  |.value f=>S.evN f fun s=>match s with
   |.fn g _=>Gh E.npre E.nm (fun S=>S.evN f fun s=>match s with
    |.fn _ caps=>forceVL (evL S c.args.toList++caps) fun l=>CallOb E.P E.free g l S fun S' s=>S'.setK o.dst (s) K
    |_=>False) S
   |.fnb g _=>Gh E.npre E.nm (fun S=>S.evN f fun s=>match s with
    |.fnb _ caps=>forceVL (caps++evL S c.args.toList) fun l=>CallOb E.P E.free g l S fun S' s=>S'.setK o.dst (s) K
    |_=>False) S
   |_=>False
  |.invoke r name=>S.evN r fun s=>match s with
   |.ifc t _=>InvOb E.P t name fun g=>Gh E.npre E.nm (fun S=>S.evN r fun s=>match s with
    |.ifc t' s=>match Nat.beq t' t with
     |true=>forceVL (s::evL S c.args.toList) fun l=>CallOb E.P E.free g l S fun S' s=>S'.setK o.dst (s) K
     |false=>False
    |_=>False) S
   |_=>False
  |_=>valS E S o.op fun s=>S.setK o.dst s K
 |_=>valS E S o.op fun s=>S.setK o.dst s K
section
variable {P:Program} {o:Oper} {a:Act} {w:World} {next:Act→World→Prop} {Q:Exit→Act→World→Prop}
theorem wp_val {v:Value} {w':World} (h:(execOp a.eval o).run P w= .ok (.value v) w') (hn:next (a.put o.dst v) w'):o.wp P a w next Q:=by
 unfold Oper.wp;rw [h];exact hn
theorem wp_unit {w':World} (h:(execOp a.eval o).run P w= .ok .skip w') (hn:next (a.put o.dst undef) w'):o.wp P a w next Q:=by
 unfold Oper.wp;rw [h];exact hn
theorem wp_enter {f:Nat} {args:Array Value} (h:(execOp a.eval o).run P w= .ok (.enter f args) w)
  (hc:Calls P f args w fun e w'=>∃v,e= .returned v∧next (a.put o.dst v) w'):o.wp P a w next Q:=by
 unfold Oper.wp;rw [h]
 refine Calls.mono hc ?_
 rintro e w' ⟨v,rfl,h⟩;exact h
end
theorem evL_ok {w0 σ0 β0 nt σ β S a w} (g:GG w0 σ0 β0 nt σ β S a w):∀l:List Operand,relL σ β (evL S l) (l.map a.eval)
 |[]=>by simp [evL,relL]
 |x::l=>by simp only [evL,List.map_cons];exact relL_cons.2 ⟨rel_nrm g.hp _ _ (g.ev x),evL_ok g l⟩
theorem evP_ok {w0 σ0 β0 nt σ β S a w} (g:GG w0 σ0 β0 nt σ β S a w) {o:Option Operand} {k:Option SV→Prop} (h:evP S o k):
  ∃so,k so∧(∀s,so=some s→∃v,o.map a.eval=some v∧rel σ β s v)∧(so=none→o.map a.eval=none):=by
 cases o with
 |none=>exact⟨none,h,by simp,by simp⟩
 |some x=>
  obtain⟨s,hr,hk⟩:=g.evN h
  exact⟨some s,hk,fun s' hs=>by cases hs;exact⟨_,rfl,hr⟩,fun h=>by cases h⟩
def PB:Option (Nat×List Value)→World→Prop
 |none,_=>True
 |some (b,cs),w=>Blk w b cs
def Yl (E:Env) (σ:PH) (β:List HB) (S:SS) (a:Act) (w:World) (op:Op) (k:SV→Prop):Prop:=
 ∃(v:Value) (s:SV) (pb:Option (Nat×List Value)),(∀w',PB pb w'→∀dst ty pos after guard,(execOp a.eval ⟨dst,op,ty,pos,after,guard⟩).run E.P w'= .ok (.value v) w')∧PB pb w∧rel σ β s v∧k s∧
  (∀b cs,pb=some (b,cs)→∃T x,op= .load T x)
theorem yl {E:Env} {σ:PH} {β:List HB} {S:SS} {a:Act} {w:World} {op:Op} {k:SV→Prop} {v:Value} {s:SV}
  (h:∀w' dst ty pos after guard,(execOp a.eval ⟨dst,op,ty,pos,after,guard⟩).run E.P w'= .ok (.value v) w') (hr:rel σ β s v) (hk:k s):Yl E σ β S a w op k:=
 ⟨v,s,none,fun w' _=>h w',trivial,hr,hk,fun _ _ h=>by cases h⟩
theorem valS_ok {E:Env} (hE:EnvOK E) {w0:World} {σ0:PH} {β0:List HB} {nt:Par} {S:SS} {op:Op} {k:SV→Prop} {a:Act} {w:World} {σ:PH} {β:List HB}
  (h:valS E S op k) (g:GG w0 σ0 β0 nt σ β S a w):Yl E σ β S a w op k:=by
 cases op<;>simp only [valS]at h<;>try exact h.elim
 case move x=>
  obtain⟨s,hr,hq⟩:=g.evN h
  clear h
  have h:=hq
  clear hq
  exact yl (v:=a.eval x) (fun _ _ _ _ _ _=>by simp [execOp]) hr h
 case pick c x y=>
  obtain⟨sc,hc,hq⟩:=g.evN h
  clear h
  have h:=hq
  clear hq
  split at h
  ·simp only [rel]at hc
   obtain⟨s,hr,hq⟩:=g.evN h
   clear h
   have h:=hq
   clear hq
   exact yl (v:=a.eval x) (fun _ _ _ _ _ _=>by simp [execOp,hc,asBool]) hr h
  ·simp only [rel]at hc
   obtain⟨s,hr,hq⟩:=g.evN h
   clear h
   have h:=hq
   clear hq
   exact yl (v:=a.eval y) (fun _ _ _ _ _ _=>by simp [execOp,hc,asBool]) hr h
  ·rename_i p
   simp only [rel]at hc
   obtain⟨b,hc,hbp⟩:=hc
   obtain⟨ht,hf⟩:=h
   cases b with
   |true=>
    obtain⟨s,hr,h⟩:=g.evN (ht (hbp.1 rfl))
    exact yl (v:=a.eval x) (fun _ _ _ _ _ _=>by simp [execOp,hc,asBool]) hr h
   |false=>
    obtain⟨s,hr,h⟩:=g.evN (hf (fun hp=>by have:=hbp.2 hp;cases this))
    exact yl (v:=a.eval y) (fun _ _ _ _ _ _=>by simp [execOp,hc,asBool]) hr h
  ·exact h.elim
 case build t parts=>
  obtain⟨v,s,hrun,hr,hk⟩:=stcS_ok hE g h
  exact yl (fun _ _ _ _ _ _=>by simp only [execOp,Sem.run_bind,hrun _,Result.andThen_ok];rfl) hr hk
 case load T x=>
  unfold SS.evN at h
  have h:=forceV_ok h
  obtain⟨v,s,b,cs,hB,hrun,hr,hk,hp⟩:=loadS_ok' hE g h (rel_nrm g.hp _ _ (g.ev x))
  exact⟨v,s,some (b,cs),fun w' hw' dst ty pos after guard=>by simp only [execOp,Sem.run_bind,hrun w' hw',Result.andThen_ok];rfl,hB,hr,hk,fun _ _ _=>⟨T,x,rfl⟩⟩
 case nilCheck x=>
  obtain⟨sx,hx,hq⟩:=g.evN h
  clear h
  have h:=hq
  clear hq
  split at h
  ·have hx':=hx;simp only [rel]at hx;obtain⟨y,b,_,_,e⟩:=hx
   exact yl (v:=a.eval x) (fun _ _ _ _ _ _=>by simp [execOp,e]) hx' h
  ·have hx':=hx;simp only [rel]at hx;obtain⟨y,b,_,_,e⟩:=hx
   exact yl (v:=a.eval x) (fun _ _ _ _ _ _=>by simp [execOp,e]) hx' h
  ·have hx':=hx;simp only [rel]at hx;obtain⟨y,z,b,_,_,_,e⟩:=hx
   exact yl (v:=a.eval x) (fun _ _ _ _ _ _=>by simp [execOp,e]) hx' h
  ·have hx':=hx;simp only [rel]at hx;obtain⟨b,off,vs,e,_⟩:=hx
   exact yl (v:=a.eval x) (fun _ _ _ _ _ _=>by simp [execOp,e]) hx' h
  ·have hx':=hx;simp only [rel]at hx;obtain⟨vs,e,_⟩:=hx
   exact yl (v:=a.eval x) (fun _ _ _ _ _ _=>by simp [execOp,e]) hx' h
  ·have hx':=hx;simp only [rel]at hx;obtain⟨u,e,_⟩:=hx
   exact yl (v:=a.eval x) (fun _ _ _ _ _ _=>by simp [execOp,e]) hx' h
  ·exact h.elim
 case binOp op t x y yt=>
  obtain⟨sx,hx,hq⟩:=g.evN h
  clear h
  have h:=hq
  clear hq
  obtain⟨sy,hy,hq⟩:=g.evN h
  clear h
  have h:=hq
  clear hq
  unfold binN at h
  split at h
  ·simp only [rel]at hy
   obtain⟨⟨v,s,hrun,hr,hk⟩,_⟩:=eqnS_ok hE g h hx x y
   exact yl (fun _ _ _ _ _ _=>by simp only [execOp];rw [hy,Sem.run_bind,hrun _];rfl) hr hk
  ·split at h
   ·obtain⟨v,s,hrun,hr,hk⟩:=eqbS_ok hE h hx hy x y
    exact yl (fun _ _ _ _ _ _=>by simp only [execOp];rw [Sem.run_bind,hrun _];rfl) hr hk
   ·obtain⟨v,s,hrun,hr,hk⟩:=eqbS_ok hE h (bl_bp hx) hy x y
    exact yl (fun _ _ _ _ _ _=>by simp only [execOp];rw [Sem.run_bind,hrun _];rfl) hr hk
   ·exact h.elim
  ·split at h
   ·obtain⟨v,s,hrun,hr,hk⟩:=eqbS_ok hE h hx (bl_bp hy) x y
    exact yl (fun _ _ _ _ _ _=>by simp only [execOp];rw [Sem.run_bind,hrun _];rfl) hr hk
   ·obtain⟨v,s,hrun,hr,hk⟩:=eqbS_ok hE h (bl_bp hx) (bl_bp hy) x y
    exact yl (fun _ _ _ _ _ _=>by simp only [execOp];rw [Sem.run_bind,hrun _];rfl) hr hk
   ·exact h.elim
  ·split at h
   ·obtain⟨v,s,hrun,hr,hk⟩:=eqaS_ok hE h hx hy x y
    exact yl (fun _ _ _ _ _ _=>by simp only [execOp];rw [Sem.run_bind,hrun _];rfl) hr hk
   ·exact h.elim
  ·split at h
   ·simp only [rel]at hx
    obtain⟨_,v,s,hrun,hr,hk⟩:=eqnS_ok hE g h hy x y
    exact yl (fun _ _ _ _ _ _=>by simp only [execOp];rw [hx,Sem.run_bind,hrun _];rfl) hr hk
   ·obtain⟨v,s,hrun,hr,hk⟩:=binS_ok (P:=E.P) (t:=t) (x:=x) (y:=y) h hx hy
    exact yl (fun _ _ _ _ _ _=>by simp only [execOp];rw [Sem.run_bind,hrun _];rfl) hr hk
 case unOp op t x=>
  obtain⟨sx,hx,hq⟩:=g.evN h
  clear h
  have h:=hq
  clear hq
  split at h
  ·simp only [rel]at hx;obtain⟨b,e,hb⟩:=hx
   refine yl (v:= .bool (!b)) (fun _ _ _ _ _ _=>by simp [execOp,e,Op.unary]) ?_ h
   simp only [rel];exact⟨_,rfl,by rw [←hb];cases b<;>simp⟩
  ·simp only [rel]at hx
   exact yl (v:= .bool false) (fun _ _ _ _ _ _=>by simp [execOp,hx,Op.unary]) (by simp only [rel]) h
  ·simp only [rel]at hx
   exact yl (v:= .bool true) (fun _ _ _ _ _ _=>by simp [execOp,hx,Op.unary]) (by simp only [rel]) h
  ·rename_i k n
   simp only [rel]at hx
   exact yl (v:= .int k (k.wrap (0-n))) (fun _ _ _ _ _ _=>by simp [execOp,hx,Op.unary,Op.intArith]) (by simp only [rel]) (arith_ok h)
  ·exact h.elim
 case convert s t x=>
  obtain⟨d1,hd1,h1⟩:=need_some h
  obtain⟨d,hd2,h2⟩:=need_some h1
  obtain⟨sx,hx,hq⟩:=g.evN h2
  clear h2
  have h2:=hq
  clear hq
  split at h2
  ·rename_i k k' n hdesc
   simp only [rel]at hx
   have u1:=(look_ok hE hd1).2
   have u2:=(look_ok hE hd2).2
   rw [hdesc]at u2
   refine yl (v:= .int k (k.wrap n)) (fun w _ _ _ _ _=>?_) (by simp only [rel]) (arith_ok h2)
   simp [execOp,hx,convert,run_underlying u1,run_underlying u2,Conv.intToInt]
  ·rename_i str hdesc
   simp only [rel]at hx
   have u1:=(look_ok hE hd1).2
   have u2:=(look_ok hE hd2).2
   rw [hdesc]at u2
   refine yl (v:= .string str) (fun w _ _ _ _ _=>?_) (by simp only [rel]) h2
   simp only [execOp,hx,convert,Sem.run_bind,run_underlying u1,run_underlying u2,Result.andThen_ok]
   cases d1.desc<;>simp
  ·exact h2.elim
 case index t x i=>
  obtain⟨sx,hx,hq⟩:=g.evN h
  obtain⟨si,hi,hq⟩:=g.evN hq
  obtain⟨v,s,hrun,hr,hk⟩:=indexVS_ok hE hq hx hi
  exact yl (fun _ _ _ _ _ _=>by simp only [execOp,Sem.run_bind,hrun _,Result.andThen_ok];rfl) hr hk
 case makeInterface t x=>
  obtain⟨d,hd,hq⟩:=need_some h
  have hu:=(look_ok hE hd).2
  split at hq
  ·rename_i hni
   obtain⟨s,hs,hq⟩:=g.evN hq
   refine yl (v:= .iface t (a.eval x)) (fun w _ _ _ _ _=>?_) (by simp only [rel];exact⟨_,rfl,hs⟩) hq
   simp only [execOp,Instr.makeInterface,Sem.run_bind,run_underlying hu,Result.andThen_ok]
   cases hdd:d.desc<;>first|(rw [hdd]at hni;simp [notIfc]at hni;done)|simp
  ·exact hq.elim
 case makeFunc fn first caps=>
  split at h
  ·rename_i f hf
   rw [forceVL_eq]at h
   have hf0:first= #[]:=by apply Array.ext';simpa using hf
   subst hf0
   refine yl (v:= .func (.func f) #[] (caps.map a.eval)) (fun _ _ _ _ _ _=>by simp [execOp,Instr.makeFunc]) ?_ h
   simp only [rel];exact⟨caps.toList.map a.eval,by congr 1;apply Array.ext';simp,evL_ok g caps.toList⟩
  ·rename_i f hf
   split at h
   ·rename_i hc0
    rw [forceVL_eq]at h
    have hc1:caps= #[]:=by apply Array.ext';simpa using hc0
    subst hc1
    refine yl (v:= .func (.func f) (first.map a.eval) #[]) (fun _ _ _ _ _ _=>by simp [execOp,Instr.makeFunc]) ?_ h
    simp only [rel];exact⟨first.toList.map a.eval,by congr 1;apply Array.ext';simp,evL_ok g first.toList⟩
   ·exact h.elim
  ·exact h.elim
 case fieldAddr t x f=>
  obtain⟨sx,hx,hq⟩:=g.evN h
  clear h
  have h:=hq
  clear hq
  obtain⟨v,s,hrun,hr,hk⟩:=fieldS_ok hE h hx
  exact yl (fun _ _ _ _ _ _=>by simp only [execOp,Sem.run_bind,hrun _,Result.andThen_ok];rfl) hr hk
 case field t x f=>
  obtain⟨d,hd2,h1⟩:=need_some h
  obtain⟨sx,hx,hq⟩:=g.evN h1
  clear h1
  have h1:=hq
  clear hq
  split at h1
  ·rename_i fs l hdesc
   simp only [rel]at hx
   obtain⟨vs,hv,hr⟩:=hx
   obtain⟨fl,hfl,h2⟩:=need_some h1
   obtain⟨df,hdf,h3⟩:=need_some h2
   obtain⟨s,hs,hk⟩:=need_some h3
   have hk:=forceV_ok hk
   have hu:=(look_ok hE hd2).2
   rw [hdesc]at hu
   have hF:=look_ok hE hdf
   cases hag:aggD df.desc with
   |true=>
    rw [hag]at hs;simp only [sub]at hs
    split at hs
    ·rename_i hble;cases hs
     have hle:=Nat.le_of_ble_eq_true hble
     refine yl (v:= .agg ((vs.drop fl.offset).take df.size).toArray) (fun w _ _ _ _ _=>?_) ?_ hk
     ·simp only [execOp,hv,Instr.field,Sem.run_bind,run_underlying hu,Result.andThen_ok,hfl,asAgg,Sem.run_pure,part,run_isAgg hF,hag,if_true,tyOK_size hF]
      simp [List.take_drop,Nat.add_comm]
     ·simp only [rel];exact⟨_,rfl,relL_take _ (relL_drop _ hr)⟩
    ·cases hs
   |false=>
    rw [hag]at hs;simp only [sub]at hs
    obtain⟨v,hvv,hrv⟩:=relL_get hr hs
    refine yl (v:=v) (fun w _ _ _ _ _=>?_) hrv hk
    simp only [execOp,hv,Instr.field,Sem.run_bind,run_underlying hu,Result.andThen_ok,hfl,asAgg,Sem.run_pure,part,run_isAgg hF,hag]
    simp [hvv]
  ·exact h1.elim
 case indexAddr t x i=>
  obtain⟨sx,hx,hq⟩:=g.evN h
  clear h
  have h:=hq
  clear hq
  obtain⟨si,hi,hq⟩:=g.evN h
  clear h
  have h:=hq
  clear hq
  obtain⟨v,s,hrun,hr,hk⟩:=indexS_ok hE g h hx hi
  exact yl (fun _ _ _ _ _ _=>by simp only [execOp,Sem.run_bind,hrun _,Result.andThen_ok];rfl) hr hk
 case extract x i=>
  obtain⟨sx,hx,hq⟩:=g.evN h
  clear h
  have h:=hq
  clear hq
  split at h
  ·rename_i l
   simp only [rel]at hx
   obtain⟨vs,hv,hr⟩:=hx
   obtain⟨s,hs,hk⟩:=need_some h
   have hk:=forceV_ok hk
   obtain⟨v,hvv,hrv⟩:=relL_get hr hs
   exact yl (v:=v) (fun _ _ _ _ _ _=>by simp [execOp,hv,Instr.extract,hvv]) hrv hk
  ·exact h.elim
 case assign x=>
  obtain⟨s,hr,hq⟩:=g.evN h
  clear h
  have h:=hq
  clear hq
  split at h
  ·exact h.elim
  ·exact yl (v:=a.eval x) (fun _ _ _ _ _ _=>by simp [execOp]) hr h
 case slice t x lo hi mx=>
  obtain⟨sx,hx,hq⟩:=g.evN h
  obtain⟨sl,hq,hl1,hl2⟩:=evP_ok g hq
  obtain⟨sh,hq,hh1,hh2⟩:=evP_ok g hq
  obtain⟨sm,hq,hm1,hm2⟩:=evP_ok g hq
  obtain⟨v,s,hrun,hr,hk⟩:=sliceS_ok (E:=E) hE hq hx hm1 hm2 hh1 hh2 hl1 hl2
  exact yl (fun _ _ _ _ _ _=>by simp only [execOp,Sem.run_bind,hrun _,Result.andThen_ok];rfl) hr hk
 case call c=>
  split at h
  ·rename_i b hcal
   rw [forceVL_eq]at h
   have hargs:=evL_ok g c.args.toList
   have hbase:∀{v:_},(∀w ty cs,(builtin b c.argTypes ty cs (c.args.map a.eval)).run E.P w= .ok (.value v) w)→
     ∀w dst ty pos after guard,(execOp a.eval ⟨dst, .call c,ty,pos,after,guard⟩).run E.P w= .ok (.value v) w:=by
    intro v hb w dst ty pos after guard
    simp only [execOp,resolve,hcal,Sem.run_bind,Sem.run_pure,Result.andThen_ok,invoke,hb]
   unfold bltS at h
   split at h
   ·split at h
    ·rename_i ts xs t x hts hxs
     rw [hxs]at hargs
     simp only [relL]at hargs
     obtain⟨v,vs',he,hr,hnil⟩:=hargs
     subst hnil
     have hta:c.argTypes= #[t]:=by apply Array.ext';simpa using hts
     have hva:c.args.map a.eval= #[v]:=by apply Array.ext';simpa using he
     obtain⟨d,hd2,h1⟩:=need_some h
     have hu:=(look_ok hE hd2).2
     have hlen:∀{n:Nat},(∃ad cp,v= .slice ad n cp)→(∃e,d.desc= .slice e)→∀w ty,(Builtin.len_ #[t] ty #[v]).run E.P w= .ok (.int .i64 n) w:=by
      rintro n ⟨ad,cp,rfl⟩ ⟨e,hde⟩ w ty
      rw [hde]at hu
      simp [Builtin.len_,run_underlying hu,goInt]
     split at h1
     ·rename_i e hdesc
      split at h1
      ·simp only [rel]at hr
       refine yl (v:= .int .i64 0) (hbase fun w ty _=>?_) (by simp only [rel]) h1
       rw [hta,hva];simp only [builtin,Sem.run_bind]
       rw [hlen (n:=0) ⟨none,0,hr⟩ ⟨e,hdesc⟩];rfl
      ·rename_i esz rows
       simp only [rel]at hr;obtain⟨ad,cap,vss,e1,_⟩:=hr
       refine yl (v:= .int .i64 rows.length) (hbase fun w ty _=>?_) (by simp only [rel]) h1
       rw [hta,hva];simp only [builtin,Sem.run_bind]
       rw [hlen ⟨ad,cap,e1⟩ ⟨e,hdesc⟩];rfl
      ·rename_i esz rows
       simp only [rel]at hr;obtain⟨ad,vss,e1,_⟩:=hr
       refine yl (v:= .int .i64 rows.length) (hbase fun w ty _=>?_) (by simp only [rel]) h1
       rw [hta,hva];simp only [builtin,Sem.run_bind]
       rw [hlen ⟨ad,_,e1⟩ ⟨e,hdesc⟩];rfl
      ·rename_i hh
       split at h1
       ·rename_i esz rows hc
        simp only [rel]at hr;obtain⟨y,hy,e1⟩:=hr
        obtain⟨_,h2,_⟩:=g.hp.ok _ _ _ hc hy
        refine yl (v:= .int .i64 rows.length) (hbase fun w ty _=>?_) (by simp only [rel]) h1
        rw [hta,hva];simp only [builtin,Sem.run_bind]
        rw [hlen ⟨_,_,by rw [e1,HB.slice,h2]⟩ ⟨e,hdesc⟩];rfl
       ·rename_i esz ms hc
        simp only [rel]at hr;obtain⟨y,hy,e1⟩:=hr
        obtain⟨_,h2,_⟩:=g.hp.ok _ _ _ hc hy
        refine yl (v:= .int .i64 ms.length) (hbase fun w ty _=>?_) (by simp only [rel]) h1
        rw [hta,hva];simp only [builtin,Sem.run_bind]
        rw [hlen ⟨_,_,by rw [e1,HB.slice,h2]⟩ ⟨e,hdesc⟩];rfl
       ·exact h1.elim
      ·rename_i hh ii
       split at h1
       ·rename_i esz ms hc
        obtain⟨m,hm,h1⟩:=h1
        simp only [rel]at hr;obtain⟨y,z,hy,hz,e1⟩:=hr
        obtain⟨_,_,_,_,h5,_⟩:=g.hp.ok _ _ _ hc hy
        obtain⟨_,h2,_⟩:=h5 ii z m hz hm
        refine yl (v:= .int .i64 m.length) (hbase fun w ty _=>?_) (by simp only [rel]) h1
        rw [hta,hva];simp only [builtin,Sem.run_bind]
        rw [hlen ⟨_,_,by rw [e1,HI.slice,h2]⟩ ⟨e,hdesc⟩];rfl
       ·exact h1.elim
      ·exact h1.elim
     ·rename_i hdesc
      split at h1
      ·rename_i str
       simp only [rel]at hr
       rw [hdesc]at hu
       refine yl (v:= .int .i64 str.size) (hbase fun w ty _=>?_) (by simp only [rel]) h1
       rw [hta,hva,hr];simp [builtin,Builtin.len_,run_underlying hu,goInt]
      ·exact h1.elim
     ·exact h1.elim
    ·exact h.elim
   ·unfold extS at h
    split at h
    ·rename_i kd x r hxs
     rw [hxs]at hargs
     simp only [relL]at hargs
     obtain⟨v,vs',he,hr,hrest⟩:=hargs
     simp only [rel]at hr;subst hr
     obtain⟨u,s,hrun,hru,hk⟩:=minS_ok (P:=E.P) r vs' x h hrest
     refine yl (v:=u) (hbase fun w ty _=>?_) hru hk
     simp [builtin,Builtin.min_,he,hrun]
    ·exact h.elim
   ·unfold extS at h
    split at h
    ·rename_i kd x r hxs
     rw [hxs]at hargs
     simp only [relL]at hargs
     obtain⟨v,vs',he,hr,hrest⟩:=hargs
     simp only [rel]at hr;subst hr
     obtain⟨u,s,hrun,hru,hk⟩:=maxS_ok (P:=E.P) r vs' x h hrest
     refine yl (v:=u) (hbase fun w ty _=>?_) hru hk
     simp [builtin,Builtin.max_,he,hrun]
    ·exact h.elim
   ·exact h.elim
  ·exact h.elim
theorem relL_unflat {σ:PH}:∀{rows:List (List SV)} {vs:List Value},relL σ [] rows.flatten vs→∃vss,vs=vss.flatten∧relLL σ rows vss
 |[],vs,h=>by simp only [List.flatten_nil,relL]at h;exact⟨[],by simp [h],by simp [relLL]⟩
 |r::rows,vs,h=>by
  rw [List.flatten_cons]at h
  have h1:=relL_take r.length h
  have h2:=relL_drop r.length h
  rw [List.take_left]at h1
  rw [List.drop_left]at h2
  obtain⟨vss,e,hr⟩:=relL_unflat h2
  exact⟨vs.take r.length::vss,by rw [List.flatten_cons,←e,List.take_append_drop],relLL_cons.2 ⟨h1,hr⟩⟩
theorem convS_ok {E:Env} (hE:EnvOK E) {w0 σ0 β0 nt σ β S a w} (g:GG w0 σ0 β0 nt σ β S a w) {s t:Nat} {sx:SV} {v:Value} {k:SV→Prop} (h:convS E S s t sx k) (hx:rel σ β sx v):
  ∃u s',(convert s t v).run E.P w= .ok u w∧rel σ β s' u∧k s':=by
 obtain⟨de,hde,h1⟩:=need_some h
 obtain⟨d,hd,h2⟩:=need_some h1
 clear h h1
 obtain⟨ds,e,hT,hds,he⟩:=elemD_ok hE hde
 have hu:=hT.2
 rw [hds]at hu
 have hu2:=(look_ok hE hd).2
 split at h2
 ·rename_i hstr hdee
  have hdd:d.desc= .string :=by cases hdd:d.desc<;>simp [hdd,isStr]at hstr⊢
  rw [hdd]at hu2
  have hue:=he.2
  rw [hdee]at hue
  obtain⟨rows,vss,hR,ns,rfl,hk⟩:=rowsK_ok g h2 hx
  have hfl:∀(ns:List Int) (vss:List (List Value)),relLL σ (ns.map fun n=>[.num .u8 n]) vss→vss.flatten=ns.map (Value.int .u8):=by
   intro ns
   induction ns with
   |nil=>intro vss h;simp only [List.map_nil,relLL]at h;subst h;rfl
   |cons n ns ih=>
    intro vss h
    simp only [List.map_cons,relLL]at h
    obtain⟨vs,vss',rfl,h1,h2⟩:=h
    obtain⟨u,rfl,hu⟩:=relL_one h1
    simp only [rel]at hu;subst hu
    simp [ih vss' h2]
  have hf:=hfl ns vss hR.rl
  have hfc:=(hR.first (P:=E.P) (w':=w) rfl).1
  obtain⟨a,cap,rfl,_,_,_,_,hat⟩:=hR
  refine⟨.string (baOf ns),_,?_,by simp only [rel],hk⟩
  have hc:(convert s t (.slice a (ns.map fun n=>[SV.num .u8 n]).length cap)).run E.P w=(Conv.bytesToString (.slice a (ns.map fun n=>[SV.num .u8 n]).length cap)).run E.P w:=by
   simp only [convert,Sem.run_bind,run_underlying hu,run_underlying hu2,Result.andThen_ok,run_underlying hue]
  rw [hc]
  cases a with
  |none=>
   have:ns=[]:=by
    rcases hat with h0|⟨b,off,A,C,h0,_⟩
    ·simpa using h0
    ·cases h0
   subst this
   simp [Conv.bytesToString,baOf]
  |some ad=>
   simp only [Builtin.firstCells,Nat.mul_one]at hfc
   rw [hf]at hfc
   exact run_bytesToString w ad _ cap ns hfc
 ·exact h2.elim
theorem mat_hol {w:World} {σ:PH} {β:List HB} {e i:Nat} {ms:List (List (List SV))} {x:HB} (h:chunkOK w σ β (.mat e ms) x) (hi:i<ms.length):chunkOK w σ β (.hol e ms i) x:=by
 obtain⟨h1,h2,h3,h4,h5,h6⟩:=h
 refine⟨h1,h2,h3,h4,hi,fun j y m _=>h5 j y m,?_⟩
 rcases h6 with⟨_,rfl,_⟩|h6
 ·simp at hi
 ·exact h6
theorem storeM_ok' {E:Env} {w0 σ0 β0 nt σ β S a w} (g:GG w0 σ0 β0 nt σ β S a w) {T h i hr:Nat} {d:TyD} (hT:TyOK E.P T d) (hsz:d.size=1) (hf1:nt.free h=true) (hf2:nt.free hr=true) (hne:h≠hr) {c0:Chunk} (hc:S.own[h]? =some c0) (hlv:live c0=true)
  {e:Nat} {ms:List (List (List SV))} {rows:List (List SV)} (hH:∀x,β[h]? =some x→chunkOK w σ β (.hol e ms i) x) (hcr:S.own[hr]? =some (.vec e rows)) {va vv:Value} {k:SS→Prop}
  (hk:k ⟨rpT h S.own.length S.tm,rpO h S.own.length (killL [h,hr] S.own++[.mat e (ms.set i rows)])⟩) (ha:rel σ β (.elt h i 0) va) (hv:rel σ β (.vec hr) vv):
  ∃w' β' S',(Instr.storeAt T va vv).run E.P w= .ok () w'∧GG w0 σ0 β0 nt σ β' S' a w'∧k S':=by
 simp only [rel]at ha hv
 obtain⟨x,b,hx,hb,rfl⟩:=ha
 obtain⟨y,hy,rfl⟩:=hv
 have hck:=hH x hx
 have hckr:=g.hp.ok _ _ _ hcr hy
 obtain⟨h1,h2,h3,h4,hi,h5,b',rest,hb',hσ,⟨hsc,T',hO⟩,hcap,hl⟩:=hck
 have hil:i<x.inn.length:=by omega
 rw [hb]at hb';cases hb'
 let toI:HI:=⟨y.blk,y.esz,y.len,y.cap,y.z⟩
 have e0:x.inn.map HI.slice++rest=(x.inn.take i).map HI.slice++x.inn[i].slice ::((x.inn.drop (i+1)).map HI.slice++rest):=by
  have e0:x.inn=x.inn.take i++x.inn[i]::x.inn.drop (i+1):=by rw [←List.drop_eq_getElem_cons hil,List.take_append_drop]
  have e1:=congrArg (List.map HI.slice) e0
  rw [List.map_append,List.map_cons]at e1
  rw [e1];simp only [List.append_assoc,List.cons_append]
 have e1:(x.inn.set i toI).map HI.slice++rest=(x.inn.take i).map HI.slice++y.slice::((x.inn.drop (i+1)).map HI.slice++rest):=by
  rw [List.set_eq_take_append_cons_drop,if_pos hil];simp only [List.map_append,List.map_cons,List.append_assoc,List.cons_append];rfl
 have hrun:=run_store1 (P:=E.P) (w:=w) (b:=b) (off:=i) (j:=0) (T:=T') (pre:=(x.inn.take i).map HI.slice) (post:=(x.inn.drop (i+1)).map HI.slice++rest) (old:=x.inn[i].slice) (v:=y.slice) (by rw [hO,e0]) (by simp;omega) rfl
 have hadd:(⟨b,i,none⟩:Addr).add 0=⟨b,i,none⟩:=by simp [Addr.add]
 rw [hadd]at hrun
 have hst:(Instr.storeAt T (.pointer (some ⟨b,i*x.esz+0,none⟩)) y.slice).run E.P w= .ok () (put w b (.cells ((x.inn.take i).map HI.slice++y.slice::((x.inn.drop (i+1)).map HI.slice++rest)).toArray T' (0,0))):=by
  have hcz:y.slice.cells= #[y.slice]:=rfl
  simp only [h1,Nat.mul_one,Nat.add_zero,Instr.storeAt,Instr.sureAddr,pure_bind,storeVar,Sem.run_bind,tyOK_size hT,Result.andThen_ok,hcz,hsz]
  simp [storeCells,Addr.add,hrun]
 have hlive:∀q∈[h,hr],nt.free q=true∧∃c,S.own[q]? =some c∧live c=true:=by
  intro q hm;simp at hm
  rcases hm with rfl|rfl
  ·exact⟨hf1,c0,hc,hlv⟩
  ·exact⟨hf2,_,hcr,rfl⟩
 let x':HB:=⟨some b,1,ms.length,x.cap,none,x.inn.set i toI⟩
 have hmemx:∀q,q∈(x.inn.set i toI).filterMap (·.blk)→q∈x.inn.filterMap (·.blk)∨y.blk=some q:=by
  intro q hq
  simp only [List.mem_filterMap]at hq⊢
  obtain⟨z,hz,hzb⟩:=hq
  rcases List.mem_or_eq_of_mem_set hz with hz|rfl
  ·exact .inl ⟨z,hz,hzb⟩
  ·exact .inr hzb
 have hdis:∀q,q∈x.blks→y.blk=some q→False:=fun q hq hyq=>hne (g.hp.apart h hr _ _ x y q hc hcr hlv rfl hx hy hq (HB.blk_mem hyq))
 have hnd:x'.blks.Nodup:=by
  simp only [x',HB.blks,Option.toList_some,List.cons_append,List.nil_append,List.nodup_cons]
  have hxn:=h3
  simp only [HB.blks,hb,Option.toList_some,List.cons_append,List.nil_append,List.nodup_cons]at hxn
  refine⟨fun hq=>(hmemx b hq).elim hxn.1 (fun hyq=>hdis b (HB.blk_mem hb) hyq),?_⟩
  have gen:∀(l:List HI) (i:Nat),(l.filterMap (·.blk)).Nodup →(∀q,q∈l.filterMap (·.blk)→y.blk=some q→False)→((l.set i toI).filterMap (·.blk)).Nodup :=by
   intro l
   induction l with
   |nil=>intro i _ _;simp
   |cons z l ih=>
    intro i hn hd
    have tl:(l.filterMap (·.blk)).Nodup :=by
     simp only [List.filterMap_cons]at hn;split at hn
     ·exact hn
     ·exact(List.nodup_cons.1 hn).2
    have tm:∀q,q∈l.filterMap (·.blk)→q∈(z::l).filterMap (·.blk):=by
     intro q hq;simp only [List.filterMap_cons];split
     ·exact hq
     ·exact List.mem_cons_of_mem _ hq
    cases i with
    |zero=>
     simp only [List.set_cons_zero,List.filterMap_cons]
     cases hyb:y.blk with
     |none=>simpa [toI,hyb]using tl
     |some q=>simp only [toI,hyb,List.nodup_cons];exact⟨fun hq=>hd q (tm q hq) hyb,tl⟩
    |succ i=>
     simp only [List.set_cons_succ,List.filterMap_cons]
     have ih':=ih i tl (fun q hq=>hd q (tm q hq))
     cases hzb:z.blk with
     |none=>exact ih'
     |some q=>
      simp only [List.nodup_cons]
      refine⟨fun hq=>?_,ih'⟩
      simp only [List.filterMap_cons,hzb,List.nodup_cons]at hn
      simp only [List.mem_filterMap]at hq
      obtain⟨u,hu,hub⟩:=hq
      rcases List.mem_or_eq_of_mem_set hu with hu|rfl
      ·exact hn.1 (List.mem_filterMap.2 ⟨u,hu,hub⟩)
      ·exact hd q (by simp [List.filterMap_cons,hzb]) hub
  exact gen x.inn i hxn.2 (fun q hq hyq=>hdis q (by simp only [HB.blks,List.mem_append];exact .inr hq) hyq)
 have hcz:chunkOK (put w b (.cells ((x.inn.take i).map HI.slice++y.slice::((x.inn.drop (i+1)).map HI.slice++rest)).toArray T' (0,0))) σ (β++[x']) (.mat e (ms.set i rows)) x':=by
  refine mat_mk rfl hnd ⟨by simp [x'],by simp [x',h4],?_, .inr ⟨b,rest,rfl,hσ,⟨?_,T',?_⟩,by simpa [x']using hcap,by simpa [x']using hl⟩⟩
  ·intro j z m hz hm
   simp only [x']at hz
   by_cases hij:i=j
   ·subst hij
    rw [List.getElem?_set_self hil]at hz;cases hz
    rw [List.getElem?_set_self hi]at hm;cases hm
    exact⟨hckr.1,VecOK.step (PH.le.refl _) hckr.2 (fun _ _ h=>h) (fun q hq=>put_get_ne (by rintro rfl;exact hdis q (HB.blk_mem hb) hq))⟩
   ·rw [List.getElem?_set_ne hij]at hz hm
    obtain⟨q1,q2⟩:=h5 j z m (fun e=>hij e.symm) hz hm
    exact⟨q1,q2.step (PH.le.refl _) (fun _ _ h=>h) (fun q hq=>put_get_ne (by rintro rfl;exact nodup_outer h3 hb hz hq))⟩
  ·intro u hu
   simp only [x']at hu
   rw [e1]at hu
   simp only [List.mem_append,List.mem_cons]at hu
   rcases hu with hu|rfl|hu
   ·exact hsc u (by rw [e0];simp only [List.mem_append];exact .inl hu)
   ·rfl
   ·exact hsc u (by rw [e0];simp only [List.mem_append,List.mem_cons];exact .inr (.inr hu))
  ·simp only [x'];rw [put_get_same (lt_of_get hO),e1]
 have hblks:∀q,q∈x'.blks→ofHs β [h,hr] q:=by
  intro q hq
  simp only [x',HB.blks,Option.toList_some,List.cons_append,List.nil_append,List.mem_cons]at hq
  rcases hq with rfl|hq
  ·exact⟨h,by simp,x,hx,HB.blk_mem hb⟩
  ·rcases hmemx q hq with hq|hq
   ·exact⟨h,by simp,x,hx,by simp only [HB.blks,List.mem_append];exact .inr hq⟩
   ·exact⟨hr,by simp,y,hy,HB.blk_mem hq⟩
 have g1:=g.succL (hs:=[h,hr]) (w':=put w b (.cells ((x.inn.take i).map HI.slice++y.slice::((x.inn.drop (i+1)).map HI.slice++rest)).toArray T' (0,0))) hlive (by simp) ⟨rfl,rfl,rfl⟩ (fun q _ hq=>put_get_ne (by rintro rfl;exact hq ⟨h,by simp,x,hx,HB.blk_mem hb⟩)) (fun q hq=> .inl (hblks q hq)) hcz
 have hlt:h<β.length:=lt_of_get? hx
 have g2:=g1.point (h:=h) (n:=β.length) (x:=x) (y:=x') (by rw [List.getElem?_append_left hlt];exact hx) (by simp) (by simp [x',HB.slice,hb,adr,h2]) (by simp [x',hb]) (by simp [x',h1])
 rw [g.hp.len]at g2
 exact⟨_,_,_,hst,g2,hk⟩
theorem storeM_ok {E:Env} (hE:EnvOK E) {w0 σ0 β0 nt σ β S a w} (g:GG w0 σ0 β0 nt σ β S a w) (hfx:E.free=nt.free) {T h i hr:Nat} {va vv:Value} {k:SS→Prop} (hs:storeM E S T h i hr k) (ha:rel σ β (.elt h i 0) va) (hv:rel σ β (.vec hr) vv):
  ∃w' β' S',(Instr.storeAt T va vv).run E.P w= .ok () w'∧GG w0 σ0 β0 nt σ β' S' a w'∧k S':=by
 obtain⟨d,hd,hs⟩:=need_some hs
 have hT:=look_ok hE hd
 split at hs
 ·rename_i hck
  simp only [Bool.and_eq_true]at hck
  obtain⟨⟨⟨⟨hsl,hsz⟩,hf1⟩,hf2⟩,hne⟩:=hck
  have hsz:=Nat.eq_of_beq_eq_true hsz
  rw [hfx]at hf1 hf2
  have hne:h≠hr:=by intro e;subst e;simp [Nat.beq_refl]at hne
  split at hs
  ·rename_i esz ms hc
   split at hs
   ·rename_i e rows hcr
    split at hs
    ·rename_i hes
     have hes:=Nat.eq_of_beq_eq_true hes;subst hes
     obtain⟨hi,hk⟩:=hs
     have hk:=forceN_ok hk
     have hk:=forceT_ok hk
     rw [forceO_eq]at hk
     exact storeM_ok' g hT hsz hf1 hf2 hne hc rfl (fun x hx=>mat_hol (g.hp.ok _ _ _ hc hx) hi) hcr hk ha hv
    ·exact hs.elim
   ·exact hs.elim
  ·rename_i esz ms q hc
   split at hs
   ·rename_i e rows hcr
    split at hs
    ·rename_i hes
     have hes:=Nat.eq_of_beq_eq_true hes;subst hes
     obtain⟨rfl,hk⟩:=hs
     have hk:=forceN_ok hk
     have hk:=forceT_ok hk
     rw [forceO_eq]at hk
     exact storeM_ok' g hT hsz hf1 hf2 hne hc rfl (fun x hx=>g.hp.ok _ _ _ hc hx) hcr hk ha hv
    ·exact hs.elim
   ·exact hs.elim
  ·exact hs.elim
 ·exact hs.elim
theorem storeR_ok {E:Env} (hE:EnvOK E) {w0 σ0 β0 nt σ β S a w} (g:GG w0 σ0 β0 nt σ β S a w) (hfx:E.free=nt.free) {T:Nat} {sa sv:SV} {va vv:Value} {k:SS→Prop} (h:storeR E S T sa sv k) (ha:rel σ β sa va) (hv:rel σ β sv vv):
  ∃w' β' S',(Instr.storeAt T va vv).run E.P w= .ok () w'∧GG w0 σ0 β0 nt σ β' S' a w'∧k S':=by
 have plain:(storeS E S T sa sv fun own=>S.withTm fun tm=>k ⟨tm,own⟩)→∃w' β' S',(Instr.storeAt T va vv).run E.P w= .ok () w'∧GG w0 σ0 β0 nt σ β' S' a w'∧k S':=by
  intro h
  obtain⟨w',own',hrun,hg,hk⟩:=storeS_ok hE g hfx h ha hv
  exact⟨w',β,_,hrun,hg,hk⟩
 unfold storeR at h
 split at h
 ·split at h
  ·split at h
   ·split at h
    ·rename_i ho
     have ho:=Nat.eq_of_beq_eq_true ho
     subst ho
     exact storeM_ok hE g hfx h ha hv
    ·exact h.elim
   ·exact h.elim
  ·exact plain h
 ·exact plain h
theorem slcK_ok {E:Env} (hE:EnvOK E) {w0 σ0 β0 nt σ β S a w} (g:GG w0 σ0 β0 nt σ β S a w) (hfx:E.free=nt.free) {t:Nat} {x:Operand} {lo hi mx:Option Operand} {k:SS→SV→Prop} (h:slcK E S t x lo hi mx k):
  ∃u β' S' s',(Instr.sliceAt t (a.eval x) (lo.map a.eval) (hi.map a.eval) (mx.map a.eval)).run E.P w= .ok u w∧GG w0 σ0 β0 nt σ β' S' a w∧rel σ β' s' u∧k S' s':=by
 obtain⟨sx,hx,hq1⟩:=g.evN h
 obtain⟨sl,hq2,hl1,hl2⟩:=evP_ok g hq1
 obtain⟨sh,hq3,hh1,hh2⟩:=evP_ok g hq2
 clear h hq1 hq2
 split at hq3
 ·split at hq3
  ·obtain⟨u,β',S',s',hrun,hg,hr,hk⟩:=sliceV_ok hE g hfx hq3 hx hh1 hh2 hl2
   exact⟨u,β',S',s',hrun,hg,hr,hk⟩
  ·obtain⟨sm,hq4,hm1,hm2⟩:=evP_ok g hq3
   obtain⟨u,β',S',s',hrun,hg,hr,hk⟩:=sliceM_ok hE g hfx hq4 hx hm1 hh1 hl2
   exact⟨u,β',S',s',hrun,hg,hr,hk⟩
 ·obtain⟨sm,hq4,hm1,hm2⟩:=evP_ok g hq3
  obtain⟨v,s,hrun,hr,hk⟩:=sliceS_ok (E:=E) hE hq4 hx hm1 hm2 hh1 hh2 hl1 hl2
  exact⟨v,β,S,s,hrun _,g,hr,hk⟩
theorem stepS_ok {E:Env} (hE:EnvOK E) {w0:World} {σ0:PH} {β0:List HB} {nt:Par} (hq0:EOK E β0 nt) {S:SS} {o:Oper} {K:SS→Prop} {next:Act→World→Prop} {Q:Exit→Act→World→Prop} {a:Act} {w:World} {σ:PH} {β:List HB}
  (hd:∀d,o.dst=some d→d<nt.n)
  (hn:∀S' a' w',K S'→G w0 σ0 β0 nt S' a' w'→next a' w') (h:stepS E S o K) (g:GG w0 σ0 β0 nt σ β S a w):o.wp E.P a w next Q:=by
 have hnp:=hq0.np
 have hfx:=hq0.fr
 have fin:∀{v:Value} {s:SV} {σ' β' S' w'},GG w0 σ0 β0 nt σ' β' S' a w'→rel σ' β' s v→K (S'.set o.dst s)→next (a.put o.dst v) w':=fun g' hr hk=>hn _ _ _ hk ⟨_,_,g'.set hr _ hd⟩
 obtain⟨dst,op,ty,pos,after,guard⟩:=o
 have quiet:valS E S op (fun s=>K (S.set dst s))→Oper.wp E.P ⟨dst,op,ty,pos,after,guard⟩ a w next Q:=by
  intro h
  obtain⟨v,s,pb,hrun,hpb,hr,hk,_⟩:=valS_ok hE h g
  exact wp_val (hrun w hpb _ _ _ _ _) (fin g hr hk)
 simp only [stepS,SS.setK_eq,SS.withTm_eq]at h
 cases op<;>simp only at h<;>first|exact quiet h|skip
 case assign x=>
  obtain⟨s,hr,hq⟩:=g.evN h
  clear h
  have h:=hq
  clear hq
  split at h
  ·rcases h with h|h
   case nil=>exact wp_val (v:=a.eval x) (by simp [execOp]) (fin g hr h)
   obtain⟨de,hde,hk⟩:=need_some h
   have hk:=forceN_ok hk
   rw [forceL_eq]at hk
   simp only [rel]at hr
   refine wp_val (v:=a.eval x) (by simp [execOp]) (fin (g.nilVec de.size) ?_ hk)
   rw [hr];simp only [rel]
   exact⟨hb4 none de.size 0 0,by simp [←g.hp.len],rfl⟩
  ·exact wp_val (v:=a.eval x) (by simp [execOp]) (fin g hr h)
 case alloc T=>
  obtain⟨d,hd',h1⟩:=need_some h
  obtain⟨cs,hcs,hk⟩:=need_some h1
  rw [forceVL_eq]at hk
  have hk:=forceN_ok hk
  have hT:=look_ok hE hd'
  obtain⟨hr,hs⟩:=cells_ok (σ:=σ) (β:=β) hcs (rel_ofV σ β d.zero)
  have hrun:(execOp a.eval ⟨dst, .alloc T,ty,pos,after,guard⟩).run E.P w= .ok (.value (.pointer (some ⟨w.heap.size,0,none⟩))) (w.alloc (.cells d.zero.cells.toList.toArray T)):=by
   simp [execOp,Instr.alloc,tyOK_zero hT,newVar,newRow]
  have box:K (SS.set ⟨S.tm,S.own++[.box cs]⟩ dst (.ptr S.own.length 0))→Oper.wp E.P ⟨dst, .alloc T,ty,pos,after,guard⟩ a w next Q:=by
   intro hk
   have hg:=g.newBox hr hs T
   refine wp_val hrun (fin hg ?_ hk)
   simp only [rel];exact⟨hb4 (some w.heap.size) 0 0 0,w.heap.size,by rw [←g.hp.len];simp,rfl,rfl⟩
  split at hk
  ·rw [forceL_eq]at hk;exact box hk
  ·cases hk with
   |box hk=>rw [forceL_eq]at hk;exact box hk
   |vec e q zr hcz hzl hcl hk=>
    rw [forceL_eq]at hk
    obtain⟨hr',_⟩:=cells_ok (σ:=σ) (β:=[]) hcs (rel_ofV σ [] d.zero)
    rw [hcz]at hr'
    obtain⟨vss,hv,hrr⟩:=relL_unflat hr'
    have hrl:∀r∈List.replicate q zr,r.length=e:=fun r hr=>by rw [(List.mem_replicate.1 hr).2,hzl]
    have hfl:vss.flatten.length=q*e:=by rw [flat_length (relLL_rows hrr hrl),relLL_length hrr,List.length_replicate]
    have hg:=g.newVec (esz:=e) (cap:=q) (rows:=List.replicate q zr) (vss:=vss) (rest:=[]) hrr hrl (by simp) (by rw [hfl];rfl) (by rw [List.append_nil,←hv];exact hs) T
    rw [List.append_nil,←hv]at hg
    refine wp_val hrun (fin hg ?_ hk)
    simp only [rel]
    exact⟨hb4 (some w.heap.size) e (List.replicate q zr).length q,w.heap.size,by rw [←g.hp.len];simp,rfl,by simp⟩
 case box T x=>
  obtain⟨s,hsr,hq⟩:=g.evN h
  clear h
  have h:=hq
  clear hq
  obtain⟨cs,hcs,hk⟩:=need_some h
  rw [forceVL_eq]at hk
  have hk:=forceN_ok hk
  rw [forceL_eq]at hk
  obtain⟨hr,hs⟩:=cells_ok hcs hsr
  have hg:=g.newBox hr hs T
  refine wp_val (v:= .pointer (some ⟨w.heap.size,0,none⟩)) (w':=w.alloc (.cells (a.eval x).cells.toList.toArray T)) ?_ (fin hg ?_ hk)
  ·simp [execOp,Instr.box,newVar,newRow]
  ·simp only [rel];exact⟨hb4 (some w.heap.size) 0 0 0,w.heap.size,by rw [←g.hp.len];simp,rfl,rfl⟩
 case buildSlice t len parts=>
  split at h
  ·obtain⟨S',σ',β',hk,hg⟩:=Gh_ok h hnp.symm hq0.nm g
   obtain⟨v,w',σ',β',S',s,hrun,hg,hr,hk⟩:=litS_ok hE hg hfx hk
   exact wp_val (by simp only [execOp,Sem.run_bind,hrun,Result.andThen_ok];rfl) (fin hg hr hk)
  ·obtain⟨v,w',σ',β',S',s,hrun,hg,hr,hk⟩:=litS_ok hE g hfx h
   exact wp_val (by simp only [execOp,Sem.run_bind,hrun,Result.andThen_ok];rfl) (fin hg hr hk)
 case store T x y=>
  obtain⟨sx,hx,hq⟩:=g.evN h
  clear h
  have h:=hq
  clear hq
  obtain⟨sy,hy,hq⟩:=g.evN h
  clear h
  have h:=hq
  clear hq
  have plain:∀{σ β S} {sx sy:SV},GG w0 σ0 β0 nt σ β S a w→rel σ β sx (a.eval x)→rel σ β sy (a.eval y)→(storeR E S T sx sy fun S=>K (S.set dst .any))→Oper.wp E.P ⟨dst, .store T x y,ty,pos,after,guard⟩ a w next Q:=by
   intro σ β S sx sy g hx hy h
   obtain⟨w',β',S',hrun,hg,hk⟩:=storeR_ok hE g hfx h hx hy
   exact wp_unit (by simp only [execOp,Sem.run_bind,hrun,Result.andThen_ok];rfl) (hn _ _ _ hk ⟨_,_,hg.set (by simp [rel]) _ hd⟩)
  split at h
  ·obtain⟨S',σ',β',hk,hg⟩:=Gh_ok h hnp.symm hq0.nm g
   obtain⟨sx',hx',hk⟩:=hg.evN hk
   obtain⟨sy',hy',hk⟩:=hg.evN hk
   exact plain hg hx' hy' hk
  ·exact plain g hx hy h
 case makeMap t r=>
  split at h
  ·obtain⟨v,w',β',S',s,hrun,hg,hr,hk⟩:=mkMapK_ok g h
   exact wp_val (by simp only [execOp,Option.map_none,Sem.run_bind,hrun,Result.andThen_ok];rfl) (fin hg hr hk)
  ·exact h.elim
 case mapUpdate t m i v=>
  obtain⟨sm,hm,hq⟩:=g.evN h
  obtain⟨si,hi,hq⟩:=g.evN hq
  obtain⟨sv,hv,hq⟩:=g.evN hq
  obtain⟨w',own',hrun,hg,hk⟩:=putK_ok hE g hfx hq hm hi hv
  exact wp_unit (by simp only [execOp,Sem.run_bind,hrun,Result.andThen_ok];rfl) (fin hg (by simp [rel]) hk)
 case insert t m i v=>
  obtain⟨sm,hm,hq⟩:=g.evN h
  obtain⟨si,hi,hq⟩:=g.evN hq
  obtain⟨sv,hv,hq⟩:=g.evN hq
  obtain⟨w',own',hrun,hg,hk⟩:=putK_ok hE g hfx hq hm hi hv
  exact wp_unit (by simp only [execOp,Sem.run_bind,hrun,Result.andThen_ok];rfl) (fin hg (by simp [rel]) hk)
 case lookup t x i ok=>
  obtain⟨sx,hx,hq⟩:=g.evN h
  obtain⟨si,hi,hq⟩:=g.evN hq
  obtain⟨u,s,hrun,hr,hk⟩:=lookK_ok hE g hq hx hi
  exact wp_val (by simp only [execOp,Sem.run_bind,hrun,Result.andThen_ok];rfl) (fin g hr hk)
 case convert s t x=>
  obtain⟨sx,hx,hq⟩:=g.evN h
  split at hq
  ·exact quiet hq
  ·exact quiet hq
  ·obtain⟨v,s',hrun,hr,hk⟩:=convS_ok hE g hq hx
   exact wp_val (by simp only [execOp,Sem.run_bind,hrun,Result.andThen_ok];rfl) (fin g hr hk)
 case makeSlice t l c=>
  obtain⟨sl,hl,hq⟩:=g.evN h
  clear h
  have h:=hq
  clear hq
  obtain⟨sc,hc,hq⟩:=g.evN h
  clear h
  have h:=hq
  clear hq
  obtain⟨v,w',β',S',s,hrun,hg,hr,hk⟩:=makeS_ok hE g h hl hc
  exact wp_val (by simp only [execOp,Sem.run_bind,hrun,Result.andThen_ok];rfl) (fin hg hr hk)
 case slice t x lo hi mx=>
  have key:∀{σ β S},GG w0 σ0 β0 nt σ β S a w→(slcK E S t x lo hi mx fun S s=>K (S.set dst s))→Oper.wp E.P ⟨dst, .slice t x lo hi mx,ty,pos,after,guard⟩ a w next Q:=by
   intro σ β S g hq0
   obtain⟨u,β',S',s',hrun,hg,hr,hk⟩:=slcK_ok hE g hfx hq0
   exact wp_val (by simp only [execOp,Sem.run_bind,hrun,Result.andThen_ok];rfl) (hn _ _ _ hk ⟨_,_,hg.set hr _ hd⟩)
  obtain⟨sx,hx,h⟩:=g.evN h
  unfold ghosted at h
  split at h
  ·obtain⟨S',σ',β',hk,hg⟩:=Gh_ok h hnp.symm hq0.nm g
   exact key hg hk
  ·exact key g h
 case call c=>
  split at h
  ·rename_i hcal
   rw [forceVL_eq]at h
   have hargs:=evL_ok g c.args.toList
   have hbase:∀{v w':_},(∀cs,(builtin .append c.argTypes ty cs (c.args.map a.eval)).run E.P w= .ok (.value v) w')→
     (execOp a.eval ⟨dst, .call c,ty,pos,after,guard⟩).run E.P w= .ok (.value v) w':=by
    intro v w' hb
    simp only [execOp,resolve,hcal,Sem.run_bind,Sem.run_pure,Result.andThen_ok,invoke,hb]
   unfold apdS at h
   split at h
   ·rename_i t t' x y hts hxs
    split at h
    ·rename_i htt
     have htt:=Nat.eq_of_beq_eq_true htt;subst htt
     rw [hxs]at hargs
     simp only [relL]at hargs
     obtain⟨v1,vs1,he,hr1,v2,vs2,rfl,hr2,rfl⟩:=hargs
     obtain⟨v,w',β',S',s,hrun,hg,hr,hk⟩:=appS_ok hE g hfx ty h hr1 hr2
     have hta:c.argTypes= #[t,t]:=by apply Array.ext';simpa using hts
     have hva:c.args.map a.eval= #[v1,v2]:=by apply Array.ext';simpa using he
     refine wp_val (v:=v) (w':=w') (hbase fun _=>?_) (fin hg hr hk)
     rw [hta,hva];simp only [builtin,Sem.run_bind,hrun];rfl
    ·exact h.elim
   ·exact h.elim
  ·rename_i f hcal
   obtain⟨s0,hs0,hq⟩:=g.evN h
   clear h
   have h:=hq
   clear hq
   split at h
   ·rename_i gf cps
    obtain⟨S',σ',β',hk,hg⟩:=Gh_ok h hnp.symm hq0.nm g
    obtain⟨s1,hs1,hk⟩:=hg.evN hk
    split at hk
    ·rename_i gf' caps
     rw [forceVL_eq]at hk
     simp only [rel]at hs0;obtain⟨vs0,hfv0,_⟩:=hs0
     simp only [rel]at hs1;obtain⟨vs1,hfv1,hcaps⟩:=hs1
     rw [hfv0]at hfv1;simp only [Value.func.injEq,Fn.func.injEq]at hfv1
     obtain⟨hgf,_,hvs⟩:=hfv1
     have hargs:=relL_append (evL_ok hg c.args.toList) hcaps
     obtain⟨⟨fn,hfn,hnm,hbd⟩,hcall⟩:=call_ok hg (by rw [←hfx];exact hk) hargs
     refine wp_enter (f:=gf) (args:=c.args.map a.eval++vs0.toArray) ?_ ?_
     ·simp only [execOp,resolve,hcal,hfv0,Deferred.ofValue,Sem.run_bind,Sem.run_pure,Result.andThen_ok,invoke,callFunc]
      rw [run_program]
      simp only [Result.andThen_ok,hfn,hnm,hbd,Bool.false_eq_true,if_false,Sem.run_pure,Array.empty_append]
     ·have e:c.args.map a.eval++vs0.toArray=(c.args.toList.map a.eval++vs1).toArray :=by
       rw [hvs];apply Array.ext';simp
      rw [e]
      refine hcall.mono ?_
      rintro e w' ⟨v,σ'',β'',S'',s,rfl,hg',hr,hk'⟩
      exact⟨v,rfl,hn _ _ _ hk' ⟨_,_,hg'.set hr _ hd⟩⟩
    ·exact hk.elim
   ·rename_i gf cps
    obtain⟨S',σ',β',hk,hg⟩:=Gh_ok h hnp.symm hq0.nm g
    obtain⟨s1,hs1,hk⟩:=hg.evN hk
    split at hk
    ·rename_i gf' caps
     rw [forceVL_eq]at hk
     simp only [rel]at hs0;obtain⟨vs0,hfv0,_⟩:=hs0
     simp only [rel]at hs1;obtain⟨vs1,hfv1,hcaps⟩:=hs1
     rw [hfv0]at hfv1;simp only [Value.func.injEq,Fn.func.injEq]at hfv1
     obtain⟨hgf,hvs,_⟩:=hfv1
     have hargs:=relL_append hcaps (evL_ok hg c.args.toList)
     obtain⟨⟨fn,hfn,hnm,hbd⟩,hcall⟩:=call_ok hg (by rw [←hfx];exact hk) hargs
     refine wp_enter (f:=gf) (args:=vs0.toArray++c.args.map a.eval) ?_ ?_
     ·simp only [execOp,resolve,hcal,hfv0,Deferred.ofValue,Sem.run_bind,Sem.run_pure,Result.andThen_ok,invoke,callFunc]
      rw [run_program]
      simp only [Result.andThen_ok,hfn,hnm,hbd,Bool.false_eq_true,if_false,Sem.run_pure,Array.append_empty]
     ·have e:vs0.toArray++c.args.map a.eval=(vs1++c.args.toList.map a.eval).toArray :=by
       rw [hvs];apply Array.ext';simp
      rw [e]
      refine hcall.mono ?_
      rintro e w' ⟨v,σ'',β'',S'',s,rfl,hg',hr,hk'⟩
      exact⟨v,rfl,hn _ _ _ hk' ⟨_,_,hg'.set hr _ hd⟩⟩
    ·exact hk.elim
   ·exact h.elim
  ·rename_i r name hcal
   obtain⟨s0,hs0,hq⟩:=g.evN h
   clear h
   split at hq
   ·rename_i t0 s00
    obtain⟨gf,hm,hq⟩:=hq
    obtain⟨S',σ',β',hk,hg⟩:=Gh_ok hq hnp.symm hq0.nm g
    obtain⟨s1,hs1,hk2⟩:=hg.evN hk
    clear hk hq
    have hk:=hk2
    clear hk2
    split at hk
    ·rename_i t1 s11
     split at hk
     ·rename_i ht1
      have ht1:=Nat.eq_of_beq_eq_true ht1
      subst ht1
      rw [forceVL_eq]at hk
      simp only [rel]at hs1;obtain⟨u,hu,hru⟩:=hs1
      have hargs:=relL_cons.2 ⟨hru,evL_ok hg c.args.toList⟩
      obtain⟨⟨fn,hfn,hnm,hbd⟩,hcall⟩:=call_ok hg (by rw [←hfx];exact hk) hargs
      refine wp_enter (f:=gf) (args:= #[u]++c.args.map a.eval) ?_ ?_
      ·have hfuel:∃q,E.P.types.size+Made.depth=q+1:=⟨E.P.types.size+99,rfl⟩
       obtain⟨q,hq⟩:=hfuel
       simp only [execOp,resolve,hcal,hu,Sem.run_bind,Sem.run_pure,Result.andThen_ok,invoke]
       have h0:(#[Value.iface t1 u]++c.args.map a.eval)[0]? =some (.iface t1 u):=by rw [Array.getElem?_append_left (by simp)];rfl
       have h1:(#[Value.iface t1 u]++c.args.map a.eval).extract 1 (#[Value.iface t1 u]++c.args.map a.eval).size =c.args.map a.eval:=by
        apply Array.ext';simp;rw [List.take_of_length_le (by simp)]
       rw [h0]
       simp only [h1,callMethod,Sem.run_bind,run_program,Result.andThen_ok,hq,method_run hm,callFunc,hfn,hnm,hbd,Bool.false_eq_true,if_false,Sem.run_pure]
      ·have e: #[u]++c.args.map a.eval=(u::c.args.toList.map a.eval).toArray :=by apply Array.ext';simp
       rw [e]
       refine hcall.mono ?_
       rintro e w' ⟨v,σ'',β'',S'',s,rfl,hg',hr,hk'⟩
       exact⟨v,rfl,hn _ _ _ hk' ⟨_,_,hg'.set hr _ hd⟩⟩
     ·exact hk.elim
    ·exact hk.elim
   ·exact hq.elim
  ·exact quiet h
end Go.Sx
end
section
namespace Go.Sx
def edgesOf (ops:Array Oper) (j:Nat):List Nat:=
 match ops[j]? with
 |some o=>(o.after.toList.filter fun e=>Region.binds .any e).map (·.on)
 |none=>[]
def reach (ops:Array Oper):Nat→List Nat→List Nat→List Nat
 |0,_,seen=>seen
 |_+1,[],seen=>seen
 |n+1,x::work,seen=>if seen.contains x then reach ops n work seen else reach ops n (edgesOf ops x++work) (x::seen)
def waits (ops:Array Oper) (j i:Nat):Bool:=(reach ops 2000 (edgesOf ops j) []).contains i
section
variable {P:Program} {ops:Array Oper} {Q:Exit→Act→World→Prop}
def wpAnyP (P:Program) (ops:Array Oper) (Q:Exit→Act→World→Prop):Nat→List (Nat×(World→Prop))→Array Bool→Act→World→Prop
 |0,_,L,a,w=>Region.ready .any ops L=[]∧Q .normal a w
 |n+1,ps,L,a,w=>(Region.ready .any ops L=[]→Q .normal a w)∧
  ∀j∈Region.ready .any ops L,wpOp P ops Q j (fun a' w'=>(∀p∈ps,waits ops j p.1=false→p.2 w')∧wpAnyP P ops Q n (ps.filter fun p=> !waits ops j p.1) (L.setIfInBounds j true) a' w') a w
theorem wpAny_of_P:∀(n:Nat) (ps:List (Nat×(World→Prop))) (L:Array Bool) (a:Act) (w:World),wpAnyP P ops Q n ps L a w→wpAny P .any ops Q n L a w
 |0,_,_,_,_,h=>h
 |n+1,_,_,_,_,h=>⟨h.1,fun i hi=>wpOp_mono (fun a' w' h'=>wpAny_of_P n _ _ a' w' h'.2) (h.2 i hi)⟩
theorem wpAnyP_sub:∀(n:Nat) (ps ps':List (Nat×(World→Prop))) (L:Array Bool) (a:Act) (w:World),(∀p∈ps',p∈ps)→wpAnyP P ops Q n ps L a w→wpAnyP P ops Q n ps' L a w
 |0,_,_,_,_,_,_,h=>h
 |n+1,ps,ps',L,a,w,hs,h=>⟨h.1,fun i hi=>wpOp_mono (fun a' w' h'=>⟨fun p hp hw=>h'.1 p (hs p hp) hw,
   wpAnyP_sub n _ _ _ a' w' (fun p hp=>by rw [List.mem_filter]at*;exact⟨hs p hp.1,hp.2⟩) h'.2⟩) (h.2 i hi)⟩
def Closed (ops:Array Oper) (L:Array Bool):Prop:=∀j oj,ops[j]? =some oj→L.getD j false=true→∀e∈oj.after,Region.binds .any e=true→L.getD e.on false=true
theorem Closed.edges {L:Array Bool} (hc:Closed ops L) {j:Nat} (hj:L.getD j false=true):∀i∈edgesOf ops j,L.getD i false=true:=by
 intro i hi
 unfold edgesOf at hi
 split at hi
 ·rename_i o ho
  simp only [List.mem_map,List.mem_filter]at hi
  obtain⟨e,⟨he,hb⟩,rfl⟩:=hi
  exact hc j o ho hj e (by simpa using he) hb
 ·simp at hi
theorem reach_listed {L:Array Bool} (hc:Closed ops L):∀(n:Nat) (work seen:List Nat),(∀i∈work,L.getD i false=true)→(∀i∈seen,L.getD i false=true)→∀i∈reach ops n work seen,L.getD i false=true
 |0,_,_,_,hs,i,hi=>hs i hi
 |n+1,[],seen,_,hs,i,hi=>hs i hi
 |n+1,x::work,seen,hw,hs,i,hi=>by
  simp only [reach]at hi
  split at hi
  ·exact reach_listed hc n work seen (fun i h=>hw i (by simp [h])) hs i hi
  ·refine reach_listed hc n _ _ (fun k hk=>?_) (fun k hk=>?_) i hi
   ·rcases List.mem_append.1 hk with hk|hk
    ·exact hc.edges (hw x (by simp)) k hk
    ·exact hw k (by simp [hk])
   ·rcases List.mem_cons.1 hk with rfl|hk
    ·exact hw _ (by simp)
    ·exact hs k hk
theorem waits_listed {L:Array Bool} (hc:Closed ops L) {j i:Nat} (hj:j∈Region.ready .any ops L) (hw:waits ops j i=true):L.getD i false=true:=by
 refine reach_listed hc 2000 (edgesOf ops j) [] ?_ (by simp) i (by simpa [waits]using hw)
 intro k hk
 obtain⟨_,o,ho,hall⟩:=mem_ready.1 hj
 unfold edgesOf at hk
 rw [ho]at hk
 simp only [List.mem_map,List.mem_filter]at hk
 obtain⟨e,⟨he,hb⟩,rfl⟩:=hk
 exact hall e (by simpa using he) hb
theorem Closed.add {L:Array Bool} (hc:Closed ops L) {j:Nat} (hj:j∈Region.ready .any ops L):Closed ops (L.setIfInBounds j true):=by
 intro k ok hk hl e he hb
 by_cases hkj:j=k
 ·subst hkj
  obtain⟨_,o,ho,hall⟩:=mem_ready.1 hj
  rw [hk]at ho;cases ho
  exact getD_set_true (hall e he hb)
 ·rw [getD_set_ne false hkj]at hl
  exact getD_set_true (hc k ok hk hl e he hb)
theorem not_listed {L:Array Bool} {i:Nat} (hi:i∈Region.ready .any ops L):L.getD i false=false:=by
 obtain⟨h0,o,ho,_⟩:=mem_ready.1 hi
 rcases Nat.lt_or_ge i L.size with h|h
 ·simp [h]at h0⊢;exact h0
 ·simp [Array.getElem?_eq_none h]
theorem wpAnyP_first {i:Nat} {oi:Oper} {v:Value} {pw:World→Prop} (hi:ops[i]? =some oi) (hsel:∀(j:Nat) (o:Oper) cs b,ops[j]? =some o→o.op≠ .select cs b)
  (hQ:∀c a w,¬Q (.panic c) a w):
  ∀(fuel:Nat) (ps:List (Nat×(World→Prop))) (L:Array Bool) (a:Act) (w:World),Closed ops L→
   (∀j oj,ops[j]? =some oj→j≠i→L.getD j true=false→(∀e∈oj.after,Region.binds .any e=true→e.on≠i)→oi.apart ops oj=true)→
   i∈Region.ready .any ops L→YieldsIf P ops pw oi v a→pw w→(∀p∈ps,p.2 w)→
   wpAnyP P ops Q fuel ((i,pw)::ps) (L.setIfInBounds i true) (a.put oi.dst v) w→wpAnyP P ops Q (fuel+1) ps L a w:=by
 have now:∀(fuel:Nat) (ps:List (Nat×(World→Prop))) (L:Array Bool) (a:Act) (w:World),YieldsIf P ops pw oi v a→pw w→(∀p∈ps,p.2 w)→
   wpAnyP P ops Q fuel ((i,pw)::ps) (L.setIfInBounds i true) (a.put oi.dst v) w→
   wpOp P ops Q i (fun a' w'=>(∀p∈ps,waits ops i p.1=false→p.2 w')∧wpAnyP P ops Q fuel (ps.filter fun p=> !waits ops i p.1) (L.setIfInBounds i true) a' w') a w:=by
  intro fuel ps L a w hy hS hps H
  exact hy.wpOp hi hS ⟨fun p hp _=>hps p hp,wpAnyP_sub fuel _ _ _ _ _ (fun p hp=>List.mem_cons_of_mem _ ((List.mem_filter.1 hp).1)) H⟩
 intro fuel
 induction fuel with
 |zero=>
  intro ps L a w _ _ hr hy hS hps H
  refine⟨fun h=>(by rw [h]at hr;cases hr),fun j hj=>?_⟩
  by_cases hji:j=i
  ·subst hji;exact now 0 ps L a w hy hS hps H
  ·have:=ready_mono hj hji
   rw [H.1]at this
   cases this
 |succ fuel ih=>
  intro ps L a w hcl hfree hr hy hS hps H
  refine⟨fun h=>(by rw [h]at hr;cases hr),fun j hj=>?_⟩
  by_cases hji:j=i
  ·subst hji;exact now (fuel+1) ps L a w hy hS hps H
  ·have h1:=H.2 j (ready_mono hj hji)
   obtain⟨hjun,oj,hoj,hall⟩:=mem_ready.1 hj
   have hni:=not_listed hr
   have hnot:∀e∈oj.after,Region.binds .any e=true→e.on≠i:=fun e he hb heq=>by
    have h1:=hall e he hb
    rw [heq,hni]at h1;cases h1
   have hwi:waits ops j i=false:=by
    cases hw:waits ops j i with
    |false=>rfl
    |true=>have:=waits_listed hcl hj hw;rw [hni]at this;cases this
   have h2:=wpOp_putIf hoj (hfree j oj hoj hji hjun hnot) (fun cs b=>hsel i oi cs b hi) (fun cs b=>hsel j oj cs b hoj) (fun c a w h=>(hQ c _ w h).elim) hy h1
   have hfree':∀k ok,ops[k]? =some ok→k≠i→(L.setIfInBounds j true).getD k true=false→
     (∀e∈ok.after,Region.binds .any e=true→e.on≠i)→oi.apart ops ok=true:=fun k ok hk hki hun hno=>by
    refine hfree k ok hk hki ?_ hno
    by_cases hjk:j=k
    ·subst hjk;exact hjun
    ·rw [getD_set_ne true hjk]at hun;exact hun
   refine wpOp_mono (fun a' w' h3=>?_) h2
   obtain⟨h3a,h3b,h3c⟩:=h3
   have hS':pw w':=h3b (i,pw) (by simp) hwi
   refine⟨fun p hp hw=>h3b p (by simp [hp]) hw,ih _ (L.setIfInBounds j true) a' w' (hcl.add hj) hfree' (ready_mono hr (Ne.symm hji)) h3a hS' ?_ ?_⟩
   ·intro p hp
    rw [List.mem_filter]at hp
    exact h3b p (by simp [hp.1]) (by simpa using hp.2)
   ·rw [Array.setIfInBounds_comm _ _ hji]
    rw [List.filter_cons,if_pos (by simp [hwi])]at h3c
    exact h3c
end
inductive Plan
 |nil
 |no
 |q (i:Nat) (r:Plan)
 |l (i:Nat) (keep:List Nat) (r alts:Plan)
def Plan.qs:List Nat→Plan→Plan
 |[],r=>r
 |i::js,r=> .q i (Plan.qs js r)
def Plan.dep:Plan→Nat
 |.nil =>0
 |.no =>0
 |.q _ r=>r.dep+1
 |.l _ _ r alts=>max (r.dep+1) alts.dep
def Plan.alts:Plan→List Nat
 |.l i _ _ a=>i::a.alts
 |_=>[]
def isLoad (o:Oper):Bool:=
 match o.op with
 |.load _ _=>true
 |_=>false
def chk (ops:Array Oper):Plan→Bool→Array Bool→List Nat→Bool
 |.nil,hd,L,_=>hd && (Region.ready .any ops L).isEmpty
 |.no,hd,_,_=> !hd
 |.q i r,hd,L,T=>hd && (Region.ready .any ops L).contains i && Region.free .any ops L i &&
   chk ops r true (L.setIfInBounds i true) (if((ops[i]?).map isLoad).getD false then i::T else T)
 |.l i keep r alts,hd,L,T=>(!hd||(Region.ready .any ops L).all fun j=>(i::alts.alts).contains j) && (Region.ready .any ops L).contains i &&
   T.all (fun t=>keep.contains t||waits ops i t) && chk ops r true (L.setIfInBounds i true) (T.filter fun t=>keep.contains t) && chk ops alts false L T
def chkAll (ops:Array Oper) (p:Plan):Bool:=Nat.ble p.dep ops.size && Region.noSelect ops && chk ops p true (Array.replicate ops.size false) []
def nonL:Nat→List Chunk→List Nat
 |_,[]=>[]
 |i,c::r=>match live c with
  |true=>nonL (i+1) r
  |false=>i::nonL (i+1) r
theorem nonL_mem:∀{l:List Chunk} {i h:Nat} {c:Chunk},l[h]? =some c→live c=false→i+h∈nonL i l
 |[],i,h,c,e,_=>by simp at e
 |d::l,i,0,c,e,hl=>by
  simp at e;subst e
  simp [nonL,hl]
 |d::l,i,h+1,c,e,hl=>by
  have:=nonL_mem (i:=i+1) (show l[h]? =some c by simpa using e) hl
  rw [show i+(h+1)=i+1+h by omega]
  simp only [nonL];split
  ·exact this
  ·exact List.mem_cons_of_mem _ this
def hasN:List Nat→Nat→Bool
 |[],_=>false
 |x::l,i=>match Nat.beq x i with
  |true=>true
  |false=>hasN l i
theorem hasN_iff:∀{l:List Nat} {i:Nat},hasN l i=true↔i∈l
 |[],i=>by simp [hasN]
 |x::l,i=>by
  simp only [hasN]
  split
  ·rename_i h;simp [Nat.eq_of_beq_eq_true h]
  ·rename_i h;rw [hasN_iff,List.mem_cons];exact⟨.inr,fun h'=>h'.resolve_left (fun e=>nbeq_false h e.symm)⟩
abbrev Pins:=List (Nat×List Nat)
def keepP (keep:List Nat):Pins→Pins
 |[]=>[]
 |(i,b)::r=>match hasN keep i with
  |true=>(i,b)::keepP keep r
  |false=>keepP keep r
def badP:Pins→List Nat
 |[]=>[]
 |(_,b)::r=>b++badP r
def markP (b:List Nat):Pins→Pins
 |[]=>[]
 |(i,_)::r=>(i,b)::markP b r
def drawE (E:Env) (act:Pins):Env:=
 match act with
 |[]=>E
 |act=>⟨E.P,E.tys,E.npre,fun h=> !hasN (badP act) h,false⟩
def noBool:Value→Bool
 |.bool _=>false
 |_=>true
theorem wanted_noBool {ops:Array Oper} {tmps:Array Value} {o:Oper} {j t:Nat} {want:Bool} (hg:o.guard=some (j,want)) (ht:(ops[j]?).bind (·.dst)=some t) (h:noBool (tmps.getD t undef)=true):
  Region.wanted o (yielded ops tmps)=false:=by
 simp only [Region.wanted,hg,yielded,ht,Option.bind_some]
 rw [Array.getD_eq_getD_getElem?]at h
 cases hv:tmps[t]? with
 |none=>simp
 |some v=>rw [hv]at h;cases v<;>simp [noBool]at h⊢
def guardS (all:List Oper) (o:Oper) (S:SS) (run skip:SS→Prop):Prop:=
 match o.guard with
 |none=>run S
 |some (j,want)=>match(all[j]?).bind (·.dst)with
  |some t=>match tlook S.tm t with
   |.bl b=>match b,want with
    |true,true=>run S
    |false,false=>run S
    |true,false=>skip S
    |false,true=>skip S
   |.bp p=>S.un fun tm own=>match want with
    |true=>CondOb p (run ⟨(t, .bl true)::tm,own⟩) (skip ⟨(t, .bl false)::tm,own⟩)
    |false=>CondOb p (skip ⟨(t, .bl true)::tm,own⟩) (run ⟨(t, .bl false)::tm,own⟩)
   |.raw v=>match noBool v with
    |true=>skip S
    |false=>False
   |_=>False
  |none=>False
def quietS (E:Env) (S:SS) (o:Oper) (k:SS→Option (List Nat)→Prop):Prop:=
 match o.op with
 |.assign x=>S.evN x fun s=>match s with
  |.nil =>need (elemD E o.type) fun de=>forceN S.own.length fun n=>forceL (S.own++[.vec de.size []]) fun own=>S.withTm fun tm=>SS.setK ⟨tm,own⟩ o.dst ((.vec n)) fun S=>k S none
  |s=>S.setK o.dst (s) fun S=>k S none
 |.load T x=>S.evN x fun sx=>loadS E S T sx fun s=>S.setK o.dst s fun S=>match sx with
  |.ptr h _=>k S (some (h::nonL 0 S.own))
  |.elt h _ _=>k S (some (h::nonL 0 S.own))
  |.elt2 h _ _ _=>k S (some (h::nonL 0 S.own))
  |_=>k S (some (nonL 0 S.own))
 |op=>valS E S op fun s=>S.setK o.dst s fun S=>k S none
def addP (i:Nat) (b:Option (List Nat)) (pins:Pins):Pins:=
 match b with
 |some b=>(i,b)::pins
 |none=>pins
def forceNL:List Nat→(List Nat→Prop)→Prop
 |[],k=>k []
 |n::l,k=>forceN n fun n=>forceNL l fun l=>k (n::l)
theorem forceNL_ok:∀{l:List Nat} {k:List Nat→Prop},forceNL l k→k l
 |[],_,h=>h
 |n::l,k,h=>forceNL_ok (l:=l) (k:=fun l=>k (n::l)) (forceN_ok (k:=fun n=>forceNL l fun l=>k (n::l)) h)
def forceP:Pins→(Pins→Prop)→Prop
 |[],k=>k []
 |(i,b)::l,k=>forceN i fun i=>forceNL b fun b=>forceP l fun l=>k ((i,b)::l)
theorem forceP_ok:∀{l:Pins} {k:Pins→Prop},forceP l k→k l
 |[],_,h=>h
 |(i,b)::l,k,h=>by
  have h1:=forceN_ok (k:=fun i=>forceNL b fun b=>forceP l fun l=>k ((i,b)::l)) h
  have h2:=forceNL_ok (k:=fun b=>forceP l fun l=>k ((i,b)::l)) h1
  exact forceP_ok (l:=l) (k:=fun l=>k ((i,b)::l)) h2
def runP (E:Env) (all:List Oper):Plan→Pins→SS→(SS→Prop)→Prop
 |.nil,_,S,K=>K S
 |.no,_,_,_=>True
 |.q i r,pins,S,K=>match all[i]? with
  |some o=>guardS all o S (fun S=>quietS E S o fun S b=>forceP (addP i b pins) fun pins=>runP E all r pins S K) (fun S=>SS.setK S o.dst (.raw undef) fun S=>runP E all r pins S K)
  |none=>False
 |.l i keep r alts,pins,S,K=>match all[i]? with
  |some o=>match alts with
   |.no =>forceP (keepP keep pins) fun act=>guardS all o S (fun S=>stepS (drawE E act) S o fun S=>forceP (markP (badP act) act) fun pins=>runP E all r pins S K)
     (fun S=>SS.setK S o.dst (.raw undef) fun S=>forceP (markP (badP act) act) fun pins=>runP E all r pins S K)
   |alts=>(forceP (keepP keep pins) fun act=>guardS all o S (fun S=>stepS (drawE E act) S o fun S=>forceP (markP (badP act) act) fun pins=>runP E all r pins S K)
     (fun S=>SS.setK S o.dst (.raw undef) fun S=>forceP (markP (badP act) act) fun pins=>runP E all r pins S K))∧runP E all alts pins S K
  |none=>False
theorem GG.know {w0 σ0 β0 nt σ β S a w} (g:GG w0 σ0 β0 nt σ β S a w) {t:Nat} {s':SV} (hr:rel σ β s' (a.tmps.getD t undef)):GG w0 σ0 β0 nt σ β ⟨(t,s')::S.tm,S.own⟩ a w:=by
 refine⟨fun t'=>?_,g.sz,g.df,g.hp,g.fr,g.pn⟩
 simp only [tlook]
 split
 ·rename_i hb;have:=Nat.eq_of_beq_eq_true hb;subst this;exact hr
 ·exact g.tm t'
theorem GG.par {w0 σ0 β0 nt σ β S a w} (g:GG w0 σ0 β0 nt σ β S a w) {nt':Par} (hn:nt'.n=nt.n∧nt'.ds=nt.ds) (hp:PinOK nt' w β):GG w0 σ0 β0 nt' σ β S a w:=
 ⟨g.tm,by rw [g.sz,hn.1],by rw [g.df,hn.2],g.hp,g.fr,hp⟩
theorem guard_ok {w0 σ0 β0 nt σ β S a w} {ops:Array Oper} {all:List Oper} (hall:ops.toList=all) {o:Oper} {run skip:SS→Prop} (h:guardS all o S run skip) (g:GG w0 σ0 β0 nt σ β S a w):
  (Region.wanted o (yielded ops a.tmps)=true∧∃S',GG w0 σ0 β0 nt σ β S' a w∧run S')∨
  (Region.wanted o (yielded ops a.tmps)=false∧∃S',GG w0 σ0 β0 nt σ β S' a w∧skip S'):=by
 unfold guardS at h
 split at h
 ·rename_i hg
  exact .inl ⟨by simp [Region.wanted,hg],S,g,h⟩
 ·rename_i j want hg
  split at h
  ·rename_i t ht
   have hy:∀b,a.tmps.getD t undef= .bool b→yielded ops a.tmps j=some b:=by
    intro b hv
    unfold yielded
    have:(ops[j]?).bind (·.dst)=some t:=by rw [←ht,←hall];simp
    rw [this]
    rw [Array.getD_eq_getD_getElem?]at hv
    cases hq:a.tmps[t]? with
    |none=>rw [hq]at hv;simp [undef]at hv
    |some v=>rw [hq]at hv;simp at hv;subst hv;simp [hq]
   have hw:∀(b:Bool),a.tmps.getD t undef= .bool b→Region.wanted o (yielded ops a.tmps)=(b==want):=by
    intro b hb
    simp only [Region.wanted,hg,hy _ hb]
    cases b<;>cases want<;>rfl
   have hr:=g.tm t
   split at h
   ·rename_i b hs
    simp only [hs,rel]at hr
    rw [hw b hr]
    split at h
    ·exact .inl ⟨by decide,S,g,h⟩
    ·exact .inl ⟨by decide,S,g,h⟩
    ·exact .inr ⟨by decide,S,g,h⟩
    ·exact .inr ⟨by decide,S,g,h⟩
   ·rename_i p hs
    simp only [hs,rel]at hr
    obtain⟨b,hv,hbp⟩:=hr
    have gb:=g.know (t:=t) (s':= .bl b) (by simp only [rel];exact hv)
    rw [hw b hv]
    simp only [SS.un_eq]at h
    split at h
    ·obtain⟨h1,h2⟩:=h
     cases b with
     |true=>exact .inl ⟨by decide,_,gb,h1 (hbp.1 rfl)⟩
     |false=>exact .inr ⟨by decide,_,gb,h2 (fun hp=>by have:=hbp.2 hp;cases this)⟩
    ·obtain⟨h1,h2⟩:=h
     cases b with
     |true=>exact .inr ⟨by decide,_,gb,h1 (hbp.1 rfl)⟩
     |false=>exact .inl ⟨by decide,_,gb,h2 (fun hp=>by have:=hbp.2 hp;cases this)⟩
   ·rename_i v hs
    simp only [hs,rel]at hr
    split at h
    ·rename_i hnb
     exact .inr ⟨wanted_noBool (t:=t) hg (by rw [←ht,←hall];simp) (by rw [hr];exact hnb),S,g,h⟩
    ·exact h.elim
   ·exact h.elim
  ·exact h.elim
theorem HeapOK.own_at {w:World} {σ:PH} {β:List HB} {own:List Chunk} (H:HeapOK w σ β own) {h:Nat} {x:HB} (hx:β[h]? =some x):∃c,own[h]? =some c:=by
 have:=lt_of_get? hx
 rw [H.len]at this
 exact⟨_,List.getElem?_eq_getElem this⟩
def badOf (own:List Chunk) (s:SV):List Nat:=
 match s with
 |.ptr h _=>h::nonL 0 own
 |.elt h _ _=>h::nonL 0 own
 |.elt2 h _ _ _=>h::nonL 0 own
 |_=>nonL 0 own
theorem bad_ok {w:World} {σ:PH} {β:List HB} {own:List Chunk} (H:HeapOK w σ β own) {s:SV} {b:Nat} (hl:LdAt σ β own s b):∀(h':Nat) (x:HB),β[h']? =some x→h'∉badOf own s→b∉x.blks:=by
 intro h' x hx hn hb
 obtain⟨c,hc⟩:=H.own_at hx
 have hlive:live c=true:=by
  cases hlc:live c with
  |true=>rfl
  |false=>
   have:=nonL_mem (i:=0) hc hlc
   rw [Nat.zero_add]at this
   exfalso;apply hn
   unfold badOf;split
   ·simp [this]
   ·simp [this]
   ·simp [this]
   ·exact this
 have hσ:=H.psn _ _ _ _ hc hlive hx hb
 rcases hl with⟨h,y,hs,hy,hyb,hd⟩|⟨_,cs,hcs⟩
 ·rcases hd with⟨d,hd,hld⟩|⟨cs,hcs⟩
  ·have:=H.apart h h' d c y x b hd hc hld hlive hy hx hyb hb
   subst this
   apply hn
   rcases hs with⟨o,rfl⟩|⟨i,o,rfl⟩|⟨i,j,o,rfl⟩<;>simp [badOf]
  ·rw [hσ]at hcs;cases hcs
 ·rw [hσ]at hcs;cases hcs
theorem quietS_ok {E:Env} (hE:EnvOK E) {w0 σ0 β0 nt σ β S a w} {o:Oper} {k:SS→Option (List Nat)→Prop} (hd:∀d,o.dst=some d→d<nt.n) (h:quietS E S o k) (g:GG w0 σ0 β0 nt σ β S a w):
  ∃v pb S' β' ob,(∀w',PB pb w'→(execOp a.eval o).run E.P w'= .ok (.value v) w')∧PB pb w∧k S' ob∧GG w0 σ0 β0 nt σ β' S' (a.put o.dst v) w∧
   (∀(h:Nat) (x:HB) (b:Nat),β'[h]? =some x→b∈x.blks→β[h]? =some x)∧
   (∀b cs,pb=some (b,cs)→isLoad o=true∧∃bad,ob=some bad∧∀(h':Nat) (x:HB),β'[h']? =some x→h'∉bad→b∉x.blks):=by
 obtain⟨dst,op,ty,pos,after,guard⟩:=o
 have other:(∀T x,op≠ .load T x)→valS E S op (fun s=>k (S.set dst s) none)→∃v pb S' β' ob,(∀w',PB pb w'→(execOp a.eval ⟨dst,op,ty,pos,after,guard⟩).run E.P w'= .ok (.value v) w')∧PB pb w∧k S' ob∧GG w0 σ0 β0 nt σ β' S' (a.put dst v) w∧
   (∀(h:Nat) (x:HB) (b:Nat),β'[h]? =some x→b∈x.blks→β[h]? =some x)∧
   (∀b cs,pb=some (b,cs)→isLoad ⟨dst,op,ty,pos,after,guard⟩=true∧∃bad,ob=some bad∧∀(h':Nat) (x:HB),β'[h']? =some x→h'∉bad→b∉x.blks):=by
  intro hne h
  obtain⟨v,s,pb,hrun,hpb,hr,hk,hld⟩:=valS_ok hE h g
  refine⟨v,pb,_,β,none,fun w' hw'=>hrun w' hw' _ _ _ _ _,hpb,hk,g.set hr _ hd,fun _ _ _ h _=>h,fun b cs e=>?_⟩
  obtain⟨T,x,rfl⟩:=hld b cs e
  exact absurd rfl (hne T x)
 simp only [quietS,SS.setK_eq,SS.withTm_eq]at h
 cases op<;>simp only at h
 case assign x=>
  obtain⟨s,hr,hq⟩:=g.evN h
  split at hq
  ·obtain⟨de,hde,hk⟩:=need_some hq
   have hk:=forceN_ok hk
   rw [forceL_eq]at hk
   simp only [rel]at hr
   have g':=(g.nilVec de.size).set (s:= .vec S.own.length) (v:=a.eval x) (by
    rw [hr];simp only [rel]
    exact⟨hb4 none de.size 0 0,by simp [←g.hp.len],rfl⟩) dst hd
   refine⟨a.eval x,none,_,_,none,fun w' _=>by simp [execOp],trivial,hk,g',fun h y b hy hb=>?_,fun _ _ e=>by cases e⟩
   rcases getElem?_snoc hy with⟨_,h4⟩|⟨_,rfl⟩
   ·exact h4
   ·have:=hb4_mem hb;cases this
  ·exact⟨a.eval x,none,_,β,none,fun w' _=>by simp [execOp],trivial,hq,g.set hr _ hd,fun _ _ _ h _=>h,fun _ _ e=>by cases e⟩
 case load T x=>
  unfold SS.evN at h
  have h:=forceV_ok h
  obtain⟨v,s,b,cs,hB,hrun,hr,hk,hl⟩:=loadS_ok' hE g h (rel_nrm g.hp _ _ (g.ev x))
  have hb:=bad_ok g.hp hl
  have g':=g.set hr dst hd
  have fin:k (S.set dst s) (some (badOf S.own (nrm S.own (S.ev x)))):=by
   clear hrun hl hb
   revert hk
   unfold badOf
   generalize nrm S.own (S.ev x)=sx
   intro hk
   cases dst<;>cases sx<;>exact hk
  exact⟨v,some (b,cs),_,β,_,fun w' hw'=>by simp only [execOp,Sem.run_bind,hrun w' hw',Result.andThen_ok];rfl,hB,fin,g',fun _ _ _ h _=>h,fun b' cs' e=>by
   cases e;exact⟨rfl,_,rfl,hb⟩⟩
 all_goals exact other (fun T x e=>by cases e) h
def JP (ps:List (Nat×(World→Prop))) (T:List Nat) (pins:Pins) (w:World) (β:List HB):Prop:=
 ∀p∈ps,(∀w',p.2 w')∨(p.1∈T∧∃b cs bad,p.2=(fun w'=>Blk w' b cs)∧(p.1,bad)∈pins∧Blk w b cs∧∀(h':Nat) (x:HB),β[h']? =some x→h'∉bad→b∉x.blks)
theorem JP.now {ps T pins w β} (h:JP ps T pins w β):∀p∈ps,p.2 w:=by
 intro p hp
 rcases h p hp with h|⟨_,b,cs,bad,e,_,hb,_⟩
 ·exact h w
 ·rw [e];exact hb
theorem mem_keepP {keep:List Nat}:∀{pins:Pins} {i:Nat} {b:List Nat},(i,b)∈pins→i∈keep→(i,b)∈keepP keep pins
 |[],_,_,h,_=>by simp at h
 |(j,c)::r,i,b,h,hk=>by
  simp only [keepP]
  rcases List.mem_cons.1 h with e|h
  ·cases e
   rw [hasN_iff.2 hk];simp
  ·split
   ·exact List.mem_cons_of_mem _ (mem_keepP h hk)
   ·exact mem_keepP h hk
theorem mem_badP:∀{pins:Pins} {i:Nat} {b:List Nat} {h:Nat},(i,b)∈pins→h∈b→h∈badP pins
 |[],_,_,_,h,_=>by simp at h
 |(j,c)::r,i,b,hh,h,hb=>by
  simp only [badP,List.mem_append]
  rcases List.mem_cons.1 h with e|h
  ·cases e;exact .inl hb
  ·exact .inr (mem_badP h hb)
theorem mem_markP {l:List Nat}:∀{pins:Pins} {i:Nat} {b:List Nat},(i,b)∈pins→(i,l)∈markP l pins
 |[],_,_,h=>by simp at h
 |(j,c)::r,i,b,h=>by
  simp only [markP]
  rcases List.mem_cons.1 h with e|h
  ·cases e;simp
  ·exact List.mem_cons_of_mem _ (mem_markP h)
theorem loud_ok {E:Env} (hE:EnvOK E) {w0 σ0 β0 nt} (hq0:EOK E β0 nt) (hpn:BP nt) (hall0:∀h,nt.free h=true) {S:SS} {o:Oper} {K:SS→Prop} {Q:Exit→Act→World→Prop} {a:Act} {w:World} {σ β} {next:Act→World→Prop}
  {ps:List (Nat×(World→Prop))} {T:List Nat} {act:Pins} (hd:∀d,o.dst=some d→d<nt.n)
  (h:stepS (drawE E act) S o K) (g:GG w0 σ0 β0 nt σ β S a w) (hJ:JP ps T act w β)
  (hn:∀S' a' w' σ' β',K S'→GG w0 σ0 β0 nt σ' β' S' a' w'→JP ps T (markP (badP act) act) w' β'→next a' w'):o.wp E.P a w next Q:=by
 cases act with
 |nil=>
  refine stepS_ok hE hq0 hd (fun S' a' w' hk ⟨σ',β',hg⟩=>hn S' a' w' σ' β' hk hg ?_) h g
  intro p hp
  rcases hJ p hp with h|⟨_,b,cs,bad,e,hm,_⟩
  ·exact .inl h
  ·simp at hm
 |cons q r=>
  generalize hact:q::r=act at*
  have hEd:drawE E act=⟨E.P,E.tys,E.npre,fun h=> !hasN (badP act) h,false⟩:=by rw [←hact];rfl
  rw [hEd]at h
  open Classical in
  let B:Nat→Prop:=fun b=>∃p∈ps,∃cs bad,p.2=(fun w'=>Blk w' b cs)∧(p.1,bad)∈act∧Blk w b cs∧∀(h':Nat) (x:HB),β[h']? =some x→h'∉bad→b∉x.blks
  let nt':Par:=⟨nt.n,fun b=>if B b then w.heap[b]? else nt.pin b,fun h=> !hasN (badP act) h,nt.ds,nt.hd⟩
  have hall:=hall0
  have hBn:∀b,B b→nt.pin b=none:=by
   rintro b ⟨p,_,cs,bad,_,_,⟨T',fz,hh⟩,_⟩
   cases hp:nt.pin b with
   |none=>rfl
   |some o=>
    have h1:=g.pn.at_ b o hp
    rw [hh]at h1
    simp only [Option.some.injEq]at h1
    exact absurd h1.symm ((hpn.b b o hp).2 _ _ _)
  have hP:PinOK nt' w β:=by
   refine⟨fun b o h=>?_,fun h x b hx hf hb=>?_⟩
   ·simp only [nt']at h;split at h
    ·exact h
    ·exact g.pn.at_ b o h
   ·have h0:nt.pin b=none:=g.pn.fr h x b hx (.inl (hall h)) hb
    simp only [nt']at hf⊢
    split
    ·rename_i hBb
     rcases hf with hf|hf
     ·obtain⟨p,_,cs,bad,_,hm,_,hfr⟩:=hBb
      refine absurd hb (hfr h x hx (fun hbad=>?_))
      have:=hasN_iff.2 (mem_badP hm hbad)
      rw [this]at hf;cases hf
     ·exact absurd h0 (hpn.a b hf)
    ·exact h0
  have hq':EOK ⟨E.P,E.tys,E.npre,fun h=> !hasN (badP act) h,false⟩ β0 nt':=⟨hq0.np,rfl,fun h=>by cases h⟩
  have hE':EnvOK ⟨E.P,E.tys,E.npre,fun h=> !hasN (badP act) h,false⟩:=hE
  refine stepS_ok hE' hq' hd (fun S' a' w' hk ⟨σ',β',hg⟩=>hn S' a' w' σ' β' hk (hg.par ⟨rfl,rfl⟩ ⟨fun b o h=>hg.pn.at_ b o (by
    simp only [nt'];rw [if_neg (fun hB=>by rw [hBn b hB]at h;cases h)];exact h),fun h x b hx _ hb=>by
    cases hp:nt.pin b with
    |none=>rfl
    |some o=>
     have h1:=hg.pn.fr h x b hx (.inr (hpn.b b o hp).1) hb
     simp only [nt']at h1
     rw [if_neg (fun hB=>by rw [hBn b hB]at hp;cases hp),hp]at h1;cases h1⟩) ?_) h (g.par (nt':=nt') ⟨rfl,rfl⟩ hP)
  intro p hp
  rcases hJ p hp with h|⟨hT,b,cs,bad,e,hm,hB,hfr⟩
  ·exact .inl h
  ·refine .inr ⟨hT,b,cs,badP act,e,mem_markP hm,?_,fun h' x hx hnb hb=>?_⟩
   ·have hBb:B b:=⟨p,hp,cs,bad,e,hm,hB,hfr⟩
    obtain⟨T',fz,hh⟩:=hB
    refine⟨T',fz,?_⟩
    exact hg.pn.at_ b _ (by simp only [nt'];rw [if_pos hBb];exact hh)
   ·have hBb:B b:=⟨p,hp,cs,bad,e,hm,hB,hfr⟩
    have:=hg.pn.fr h' x b hx (.inl (by simp only [nt'];cases hh:hasN (badP act) h' with|false=>rfl|true=>exact absurd (hasN_iff.1 hh) hnb)) hb
    simp only [nt']at this
    rw [if_pos hBb]at this
    obtain⟨T',fz,hh⟩:=hB
    rw [hh]at this;cases this
theorem runP_ok {E:Env} (hE:EnvOK E) {w0 σ0 β0 nt} (hq0:EOK E β0 nt) (hpn:BP nt) (hall0:∀h,nt.free h=true) {ops:Array Oper} {all:List Oper} (hall:ops.toList=all) {Q:Exit→Act→World→Prop} {K:SS→Prop}
  (hQ:∀c a w,¬Q (.panic c) a w) (hsel:Region.noSelect ops=true) (hd:∀o∈all,∀d,o.dst=some d→d<nt.n)
  (hK:∀S a w,K S→G w0 σ0 β0 nt S a w→Q .normal a w):∀(p:Plan) (T:List Nat) (pins:Pins) (S:SS) (L:Array Bool) (ps:List (Nat×(World→Prop))) (a:Act) (w:World) (σ:PH) (β:List HB) (fuel:Nat),
   runP E all p pins S K→GG w0 σ0 β0 nt σ β S a w→JP ps T pins w β→Closed ops L→p.dep≤fuel→
   (chk ops p true L T=true→wpAnyP E.P ops Q fuel ps L a w)∧
   (chk ops p false L T=true→∀f,fuel=f+1→∀j∈p.alts,wpOp E.P ops Q j (fun a' w'=>(∀p∈ps,waits ops j p.1=false→p.2 w')∧wpAnyP E.P ops Q f (ps.filter fun p=> !waits ops j p.1) (L.setIfInBounds j true) a' w') a w)
 |.nil,T,pins,S,L,ps,a,w,σ,β,fuel,h,g,hJ,hcl,hf=>by
  refine⟨fun hc=>?_,fun hc f e j hj=>by simp [Plan.alts]at hj⟩
  simp only [chk,Bool.true_and,List.isEmpty_iff]at hc
  have hq:Q .normal a w:=hK S a w h ⟨σ,β,g⟩
  cases fuel with
  |zero=>exact⟨hc,hq⟩
  |succ n=>exact⟨fun _=>hq,by rw [hc];simp⟩
 |.no,T,pins,S,L,ps,a,w,σ,β,fuel,h,g,hJ,hcl,hf=>⟨fun hc=>by simp [chk]at hc,fun hc f e j hj=>by simp [Plan.alts]at hj⟩
 |.q i r,T,pins,S,L,ps,a,w,σ,β,fuel,h,g,hJ,hcl,hf=>by
  refine⟨fun hc=>?_,fun hc f e j hj=>by simp [Plan.alts]at hj⟩
  simp only [chk,Bool.true_and,Bool.and_eq_true]at hc
  obtain⟨⟨hr,hfree⟩,hc⟩:=hc
  simp only [Plan.dep]at hf
  obtain⟨f,rfl⟩:∃f,fuel=f+1:=⟨fuel-1,by omega⟩
  simp only [runP]at h
  split at h
  ·rename_i o ho
   have hop:ops[i]? =some o:=by rw [←ho,←hall];simp
   have hdo:=hd o (by rw [←hall];simpa using Array.mem_of_getElem? hop)
   have hri:i∈Region.ready .any ops L:=by simpa using hr
   rcases guard_ok hall h g with⟨hw,S1,g1,h1⟩|⟨hw,S1,g1,h1⟩
   ·obtain⟨v,pb,S',β',ob,hrun,hpb,hk,g',hβ,hbad⟩:=quietS_ok hE hdo h1 g1
    have hk:=forceP_ok hk
    refine wpAnyP_first (pw:=PB pb) hop (Region.noSelect_spec hsel) hQ f ps L a w hcl (Region.free_spec hop hfree) hri (.inl ⟨hw,hrun⟩) hpb hJ.now ?_
    refine(runP_ok hE hq0 hpn hall0 hall hQ hsel hd hK r _ _ S' _ _ _ w σ β' f hk g' ?_ (hcl.add hri) (by omega)).1 hc
    intro p hp
    have hT':∀t,t∈T→t∈(if((ops[i]?).map isLoad).getD false then i::T else T):=fun t ht=>by split<;>simp [ht]
    rcases List.mem_cons.1 hp with rfl|hp
    ·cases hpbc:pb with
     |none=>exact .inl fun _=>trivial
     |some bc=>
      obtain⟨b,cs⟩:=bc
      obtain⟨hil,bad,rfl,hb⟩:=hbad b cs hpbc
      rw [hpbc]at hpb
      exact .inr ⟨by simp [hop,hil],b,cs,bad,rfl,by simp [addP],hpb,hb⟩
    ·rcases hJ p hp with h|⟨ht,b,cs,bad,e,hm,hB,hfr⟩
     ·exact .inl h
     ·refine .inr ⟨hT' _ ht,b,cs,bad,e,?_,hB,fun h' x hx hn hb=>hfr h' x (hβ h' x b hx hb) hn hb⟩
      unfold addP;split
      ·exact List.mem_cons_of_mem _ hm
      ·exact hm
   ·rw [SS.setK_eq]at h1
    refine wpAnyP_first (v:=undef) (pw:=fun _=>True) hop (Region.noSelect_spec hsel) hQ f ps L a w hcl (Region.free_spec hop hfree) hri (.inr ⟨hw,rfl⟩) trivial hJ.now ?_
    refine(runP_ok hE hq0 hpn hall0 hall hQ hsel hd hK r _ _ _ _ _ _ w σ β f h1 (g1.set (s:= .raw undef) (v:=undef) (by simp [rel]) o.dst hdo) ?_ (hcl.add hri) (by omega)).1 hc
    intro p hp
    have hT':∀t,t∈T→t∈(if((ops[i]?).map isLoad).getD false then i::T else T):=fun t ht=>by split<;>simp [ht]
    rcases List.mem_cons.1 hp with rfl|hp
    ·exact .inl fun _=>trivial
    ·exact(hJ p hp).imp id (fun⟨ht,r⟩=>⟨hT' _ ht,r⟩)
  ·exact h.elim
 |.l i keep r alts,T,pins,S,L,ps,a,w,σ,β,fuel,h,g,hJ,hcl,hf=>by
  have two:chk ops (.l i keep r alts) false L T=true→∀f,fuel=f+1→∀j∈(Plan.l i keep r alts).alts,wpOp E.P ops Q j (fun a' w'=>(∀p∈ps,waits ops j p.1=false→p.2 w')∧wpAnyP E.P ops Q f (ps.filter fun p=> !waits ops j p.1) (L.setIfInBounds j true) a' w') a w:=by
   intro hc f e j hj
   subst e
   simp only [chk,Bool.not_false,Bool.true_or,Bool.true_and,Bool.and_eq_true]at hc
   obtain⟨⟨⟨hr,hT⟩,hc1⟩,hc2⟩:=hc
   have hri:i∈Region.ready .any ops L:=by simpa using hr
   simp only [Plan.dep]at hf
   simp only [runP]at h
   split at h
   ·rename_i o ho
    have hop:ops[i]? =some o:=by rw [←ho,←hall];simp
    have hdo:=hd o (by rw [←hall];simpa using Array.mem_of_getElem? hop)
    have hboth:(forceP (keepP keep pins) fun act=>guardS all o S (fun S=>stepS (drawE E act) S o fun S=>forceP (markP (badP act) act) fun pins=>runP E all r pins S K)
     (fun S=>SS.setK S o.dst (.raw undef) fun S=>forceP (markP (badP act) act) fun pins=>runP E all r pins S K))∧(runP E all alts pins S K):=by
     cases alts<;>first|exact h|exact⟨h,trivial⟩
    obtain⟨h,halts⟩:=hboth
    have h:=forceP_ok h
    simp only [Plan.alts,List.mem_cons]at hj
    rcases hj with rfl|hj
    ·have hJ':JP (ps.filter fun p=> !waits ops j p.1) (T.filter fun t=>keep.contains t) (keepP keep pins) w β:=by
      intro p hp
      rw [List.mem_filter]at hp
      obtain⟨hp,hw⟩:=hp
      rcases hJ p hp with h|⟨ht,b,cs,bad,e,hm,hB,hfr⟩
      ·exact .inl h
      ·have:=List.all_eq_true.1 hT _ ht
       have hw:waits ops j p.1=false:=by simpa using hw
       rw [hw,Bool.or_false]at this
       exact .inr ⟨by rw [List.mem_filter];exact⟨ht,this⟩,b,cs,bad,e,mem_keepP hm (by simpa using this),hB,hfr⟩
     have hnow:∀{a' w' β'},JP (ps.filter fun p=> !waits ops j p.1) (T.filter fun t=>keep.contains t) (markP (badP (keepP keep pins)) (keepP keep pins)) w' β'→
       wpAnyP E.P ops Q f (ps.filter fun p=> !waits ops j p.1) (L.setIfInBounds j true) a' w'→
       (∀p∈ps,waits ops j p.1=false→p.2 w')∧wpAnyP E.P ops Q f (ps.filter fun p=> !waits ops j p.1) (L.setIfInBounds j true) a' w':=by
      intro a' w' β' hJn hw
      exact⟨fun p hp hwt=>hJn.now p (by rw [List.mem_filter];exact⟨hp,by simp [hwt]⟩),hw⟩
     have hf':r.dep≤f:=by omega
     unfold wpOp
     rw [hop]
     simp only
     rcases guard_ok hall h g with⟨hw,S1,g1,h1⟩|⟨hw,S1,g1,h1⟩
     ·rw [if_pos hw]
      refine .inl (loud_ok hE hq0 hpn hall0 hdo h1 g1 hJ' ?_)
      intro S' a' w' σ' β' hk hg hJn
      have hk:=forceP_ok hk
      exact hnow hJn ((runP_ok hE hq0 hpn hall0 hall hQ hsel hd hK r _ _ S' _ _ a' w' σ' β' f hk hg hJn (hcl.add hri) hf').1 hc1)
     ·rw [if_neg (by simp [hw])]
      rw [SS.setK_eq]at h1
      have h1:=forceP_ok h1
      have hJn:JP (ps.filter fun p=> !waits ops j p.1) (T.filter fun t=>keep.contains t) (markP (badP (keepP keep pins)) (keepP keep pins)) w β:=by
       intro p hp
       rcases hJ' p hp with h|⟨ht,b,cs,bad,e,hm,hB,hfr⟩
       ·exact .inl h
       ·exact .inr ⟨ht,b,cs,_,e,mem_markP hm,hB,fun h' x hx hn hb=>hfr h' x hx (fun hin=>hn (mem_badP hm hin)) hb⟩
      exact hnow hJn ((runP_ok hE hq0 hpn hall0 hall hQ hsel hd hK r _ _ _ _ _ _ w σ β f h1 (g1.set (s:= .raw undef) (v:=undef) (by simp [rel]) o.dst hdo) hJn (hcl.add hri) hf').1 hc1)
    ·exact(runP_ok hE hq0 hpn hall0 hall hQ hsel hd hK alts T pins S L ps a w σ β (f+1) halts g hJ hcl (by omega)).2 hc2 f rfl j hj
   ·exact h.elim
  refine⟨fun hc=>?_,two⟩
  have hf':=hf
  simp only [Plan.dep]at hf'
  obtain⟨f,rfl⟩:∃f,fuel=f+1:=⟨fuel-1,by omega⟩
  have hc':=hc
  simp only [chk,Bool.not_true,Bool.false_or,Bool.and_eq_true]at hc'
  obtain⟨⟨⟨⟨hall',hr⟩,hT⟩,hc1⟩,hc2⟩:=hc'
  have hri:i∈Region.ready .any ops L:=by simpa using hr
  refine⟨fun h0=>(by rw [h0]at hri;cases hri),fun j hj=>two ?_ f rfl j ?_⟩
  ·simp only [chk,Bool.not_false,Bool.true_or,Bool.true_and,Bool.and_eq_true]
   exact⟨⟨⟨hr,hT⟩,hc1⟩,hc2⟩
  ·have:=List.all_eq_true.1 hall' j hj
   simpa [Plan.alts]using this
def Keeps (a a':Act) (d:Option Tmp):Prop:=∀t,d≠some t→a'.tmps.getD t undef=a.tmps.getD t undef
theorem put_keeps (a:Act) (d:Option Tmp) (v:Value):Keeps a (a.put d v) d:=by
 intro t ht
 cases d with
 |none=>rfl
 |some d=>
  have:d≠t:=fun e=>ht (by rw [e])
  simp only [Act.put,Array.getD_eq_getD_getElem?,Array.getElem?_setIfInBounds,if_neg this]
theorem wp_put {P:Program} {o:Oper} {a:Act} {w:World} {next:Act→World→Prop} {Q:Exit→Act→World→Prop} (hh:o.wp P a w (fun a' w'=>Keeps a a' o.dst→next a' w') Q):o.wp P a w next Q:=by
 unfold Oper.wp at*
 generalize (execOp a.eval o).run P w=r at*
 cases r with
 |ok n w'=>
  cases n<;>simp only [Oper.upon]at hh⊢<;>
   first
    |exact hh (put_keeps _ _ _)
    |exact Calls.mono hh (fun e w'' he=>by cases e<;>first|exact he (put_keeps _ _ _)|exact he)
    |exact Rows.mono hh (fun _ _ he=>he (put_keeps _ _ _))
 |halt x w'=>cases x<;>simp only [Oper.upon]at hh⊢<;>exact hh
def rigid:SV→Bool
 |.num _ _=>true
 |.bl _=>true
 |.str _=>true
 |.nil =>true
 |.vec _=>true
 |.row _ _=>true
 |.mp _=>true
 |.ptr _ _=>true
 |.elt _ _ _=>true
 |.elt2 _ _ _ _=>true
 |_=>false
theorem rigid_eq {σ:PH} {β:List HB} {s:SV} {v v':Value} (h:rigid s=true) (hv:rel σ β s v) (hv':rel σ β s v'):v=v':=by
 cases s<;>simp only [rigid,Bool.false_eq_true]at h<;>simp only [rel]at hv hv'
 case num=>rw [hv,hv']
 case bl=>rw [hv,hv']
 case str=>rw [hv,hv']
 case nil=>rw [hv,hv']
 case vec=>obtain⟨x,e,rfl⟩:=hv;obtain⟨x',e',rfl⟩:=hv';rw [e]at e';cases e';rfl
 case row=>obtain⟨x,y,e,f,rfl⟩:=hv;obtain⟨x',y',e',f',rfl⟩:=hv';rw [e]at e';cases e';rw [f]at f';cases f';rfl
 case mp=>obtain⟨x,y,e,f,rfl⟩:=hv;obtain⟨x',y',e',f',rfl⟩:=hv';rw [e]at e';cases e';rw [f]at f';cases f';rfl
 case ptr=>obtain⟨x,y,e,f,rfl⟩:=hv;obtain⟨x',y',e',f',rfl⟩:=hv';rw [e]at e';cases e';rw [f]at f';cases f';rfl
 case elt=>obtain⟨x,y,e,f,rfl⟩:=hv;obtain⟨x',y',e',f',rfl⟩:=hv';rw [e]at e';cases e';rw [f]at f';cases f';rfl
 case elt2=>obtain⟨x,y,b,e,f,g,rfl⟩:=hv;obtain⟨x',y',b',e',f',g',rfl⟩:=hv';rw [e]at e';cases e';rw [f]at f';cases f';rw [g]at g';cases g';rfl
def keepI (keep:List Nat):List Nat→List Nat
 |[]=>[]
 |i::r=>match hasN keep i with
  |true=>i::keepI keep r
  |false=>keepI keep r
theorem mem_keepI {keep:List Nat}:∀{l:List Nat} {i:Nat},i∈l→i∈keep→i∈keepI keep l
 |[],_,h,_=>by simp at h
 |j::r,i,h,hk=>by
  simp only [keepI]
  rcases List.mem_cons.1 h with e|h
  ·subst e;rw [hasN_iff.2 hk];simp
  ·split
   ·exact List.mem_cons_of_mem _ (mem_keepI h hk)
   ·exact mem_keepI h hk
def stabR (ops:Array Oper):Bool:=
 (List.range ops.size).all fun j=>match ops[j]? with
  |some oj=>match oj.op with
   |.load _ x=>match oj.dst with
    |some dj=>(match x with
     |.tmp t=> !Nat.beq t dj
     |_=>true) && (List.range ops.size).all fun i=>Nat.beq i j||match ops[i]? with
     |some oi=>match oi.dst with
      |some di=> !Nat.beq dj di && (match x with
       |.tmp t=> !Nat.beq t di||(edgesOf ops j).contains i
       |_=>true)
      |none=>true
     |none=>true
    |none=>false
   |_=>true
  |none=>true
theorem stab_dst {ops:Array Oper} (h:stabR ops=true) {j:Nat} {oj:Oper} {T:Nat} {x:Operand} (hj:ops[j]? =some oj) (hl:oj.op= .load T x):
  ∃d,oj.dst=some d∧x≠ .tmp d:=by
 unfold stabR at h
 have h1:=List.all_eq_true.1 h j (by rw [List.mem_range];exact(Array.getElem?_eq_some_iff.1 hj).1)
 simp only [hj,hl]at h1
 split at h1
 ·rename_i dj hd
  refine⟨dj,hd,fun e=>?_⟩
  subst e;simp at h1
 ·cases h1
theorem stab_spec {ops:Array Oper} (h:stabR ops=true) {j i di:Nat} {oj oi:Oper} {T:Nat} {x:Operand} (hj:ops[j]? =some oj) (hl:oj.op= .load T x) (hi:ops[i]? =some oi) (hne:i≠j) (hd:oi.dst=some di):
  oj.dst≠some di∧(∀t,x= .tmp t→t=di→i∈edgesOf ops j):=by
 have lt:∀{k:Nat} {o:Oper},ops[k]? =some o→k∈List.range ops.size:=fun {k o} e=>by
  rw [List.mem_range];exact(Array.getElem?_eq_some_iff.1 e).1
 unfold stabR at h
 have h1:=List.all_eq_true.1 h j (lt hj)
 simp only [hj,hl]at h1
 split at h1
 ·rename_i dj hdj
  rw [Bool.and_eq_true]at h1
  have h2:=List.all_eq_true.1 h1.2 i (lt hi)
  have hb:Nat.beq i j=false:=by cases hb:Nat.beq i j with|false=>rfl|true=>exact absurd (Nat.eq_of_beq_eq_true hb) hne
  simp only [hi,hd,hb,Bool.false_or,Bool.and_eq_true]at h2
  obtain⟨h2,h3⟩:=h2
  refine⟨fun e=>?_,fun t ht e=>?_⟩
  ·rw [hdj]at e;cases e;simp at h2
  ·subst ht;subst e;simpa using h3
 ·cases h1
def JR (P:Program) (ops:Array Oper) (ps:List (Nat×(World→Prop))) (T ids:List Nat) (L:Array Bool) (a:Act) (w:World):Prop:=
 ∀p∈ps,(∀w',p.2 w')∨(p.1∈T∧p.1∈ids∧L.getD p.1 false=true∧p.2 w∧∃o d T' x,ops[p.1]? =some o∧o.op= .load T' x∧o.dst=some d∧
  p.2=fun w'=>(execOp a.eval o).run P w'= .ok (.value (a.tmps.getD d undef)) w')
theorem JR.now {P ops ps T ids L a w} (h:JR P ops ps T ids L a w):∀p∈ps,p.2 w:=by
 intro p hp
 rcases h p hp with h|⟨_,_,_,h,_⟩
 ·exact h w
 ·exact h
theorem exec_load {o:Oper} {T:Nat} {x:Operand} (hl:o.op= .load T x) {a a':Act} (e:a'.eval x=a.eval x):execOp a'.eval o=execOp a.eval o:=by
 obtain⟨dst,op,ty,pos,after,guard⟩:=o
 simp only at hl;subst hl
 simp only [execOp,e]
theorem JR.keeps {ops:Array Oper} (hst:stabR ops=true) {L:Array Bool} (hcl:Closed ops L) {i:Nat} {oi:Oper} (hi:ops[i]? =some oi) (hL:L.getD i false=false) {a a':Act} (hk:Keeps a a' oi.dst)
  {j:Nat} (hj:L.getD j false=true) {o:Oper} {d T':Nat} {x:Operand} (ho:ops[j]? =some o) (hl:o.op= .load T' x) (hd:o.dst=some d):
  a'.eval x=a.eval x∧a'.tmps.getD d undef=a.tmps.getD d undef:=by
 have hne:i≠j:=fun e=>by rw [e,hj]at hL;cases hL
 refine⟨?_,hk d fun e=>?_⟩
 ·cases x with
  |tmp t=>
   refine hk t fun e=>?_
   have:=hcl.edges hj i ((stab_spec hst ho hl hi hne e).2 t rfl rfl)
   rw [hL]at this;cases this
  |const v=>rfl
  |global g=>rfl
  |func f=>rfl
 ·exact(stab_spec hst ho hl hi hne e).1 hd
def rechk (E:Env) (all:List Oper) (S:SS):List Nat→Prop→Prop
 |[],k=>k
 |j::l,k=>match all[j]? with
  |some o=>match o.op with
   |.load T x=>match o.dst with
    |some d=>S.evN x fun sx=>loadS E S T sx fun s=>forceV (tlook S.tm d) fun s'=>(rigid s=true∧s=s')∧rechk E all S l k
    |none=>False
   |_=>False
  |none=>False
theorem rechk_ok {E:Env} (hE:EnvOK E) {w0 σ0 β0 nt σ β S a w} {ops:Array Oper} {all:List Oper} (hall:ops.toList=all) (g:GG w0 σ0 β0 nt σ β S a w):∀{l:List Nat} {k:Prop},rechk E all S l k→
  k∧∀j∈l,∀o d,ops[j]? =some o→o.dst=some d→(execOp a.eval o).run E.P w= .ok (.value (a.tmps.getD d undef)) w
 |[],k,h=>⟨h,by simp⟩
 |j::l,k,h=>by
  simp only [rechk]at h
  split at h
  ·rename_i o ho
   split at h
   ·rename_i T x hop
    split at h
    ·rename_i d hd
     unfold SS.evN at h
     have h:=forceV_ok h
     obtain⟨v,s,b,cs,hB,hrun,hr,hk,_⟩:=loadS_ok' hE g h (rel_nrm g.hp _ _ (g.ev x))
     have hk:=forceV_ok hk
     obtain⟨⟨h1,h2⟩,hk⟩:=hk
     obtain⟨hk,hrest⟩:=rechk_ok hE hall g hk
     refine⟨hk,fun j' hj'=>?_⟩
     rcases List.mem_cons.1 hj' with rfl|hj'
     ·intro o' d' ho' hd'
      have:o'=o:=by
       rw [←hall]at ho
       have h3:ops[j']? =some o:=by rw [←ho];simp
       rw [ho']at h3;cases h3;rfl
      subst this
      rw [hd]at hd';cases hd'
      have hv:v=a.tmps.getD d undef:=rigid_eq h1 hr (by rw [h2];exact g.tm d)
      rw [←hv]
      obtain⟨dst,op,ty,pos,after,guard⟩:=o'
      simp only at hop;subst hop
      simp only [execOp,Sem.run_bind,hrun w hB,Result.andThen_ok];rfl
     ·exact hrest j' hj'
    ·exact h.elim
   ·exact h.elim
  ·exact h.elim
def addI (i:Nat) (b:Option (List Nat)) (ids:List Nat):List Nat:=
 match b with
 |some _=>i::ids
 |none=>ids
def runR (E:Env) (all:List Oper):Plan→List Nat→SS→(SS→Prop)→Prop
 |.nil,_,S,K=>K S
 |.no,_,_,_=>True
 |.q i r,ids,S,K=>match all[i]? with
  |some o=>guardS all o S (fun S=>quietS E S o fun S b=>match b with
    |some _=>runR E all r (i::ids) S K
    |none=>runR E all r ids S K) (fun S=>SS.setK S o.dst (.raw undef) fun S=>runR E all r ids S K)
  |none=>False
 |.l i keep r alts,ids,S,K=>match all[i]? with
  |some o=>match alts with
   |.no =>forceNL (keepI keep ids) fun act=>guardS all o S (fun S=>stepS E S o fun S=>rechk E all S act (runR E all r act S K))
     (fun S=>SS.setK S o.dst (.raw undef) fun S=>runR E all r act S K)
   |alts=>(forceNL (keepI keep ids) fun act=>guardS all o S (fun S=>stepS E S o fun S=>rechk E all S act (runR E all r act S K))
     (fun S=>SS.setK S o.dst (.raw undef) fun S=>runR E all r act S K))∧runR E all alts ids S K
  |none=>False
theorem runR_ok {E:Env} (hE:EnvOK E) {w0 σ0 β0 nt} (hq0:EOK E β0 nt) {ops:Array Oper} {all:List Oper} (hall:ops.toList=all) {Q:Exit→Act→World→Prop} {K:SS→Prop}
  (hQ:∀c a w,¬Q (.panic c) a w) (hsel:Region.noSelect ops=true) (hst:stabR ops=true) (hd:∀o∈all,∀d,o.dst=some d→d<nt.n)
  (hK:∀S a w,K S→G w0 σ0 β0 nt S a w→Q .normal a w):∀(p:Plan) (T ids:List Nat) (S:SS) (L:Array Bool) (ps:List (Nat×(World→Prop))) (a:Act) (w:World) (σ:PH) (β:List HB) (fuel:Nat),
   runR E all p ids S K→GG w0 σ0 β0 nt σ β S a w→JR E.P ops ps T ids L a w→Closed ops L→L.size=ops.size→p.dep≤fuel→
   (chk ops p true L T=true→wpAnyP E.P ops Q fuel ps L a w)∧
   (chk ops p false L T=true→∀f,fuel=f+1→∀j∈p.alts,wpOp E.P ops Q j (fun a' w'=>(∀p∈ps,waits ops j p.1=false→p.2 w')∧wpAnyP E.P ops Q f (ps.filter fun p=> !waits ops j p.1) (L.setIfInBounds j true) a' w') a w)
 |.nil,T,ids,S,L,ps,a,w,σ,β,fuel,h,g,hJ,hcl,hz,hf=>by
  refine⟨fun hc=>?_,fun hc f e j hj=>by simp [Plan.alts]at hj⟩
  simp only [chk,Bool.true_and,List.isEmpty_iff]at hc
  have hq:Q .normal a w:=hK S a w h ⟨σ,β,g⟩
  cases fuel with
  |zero=>exact⟨hc,hq⟩
  |succ n=>exact⟨fun _=>hq,by rw [hc];simp⟩
 |.no,T,ids,S,L,ps,a,w,σ,β,fuel,h,g,hJ,hcl,hz,hf=>⟨fun hc=>by simp [chk]at hc,fun hc f e j hj=>by simp [Plan.alts]at hj⟩
 |.q i r,T,ids,S,L,ps,a,w,σ,β,fuel,h,g,hJ,hcl,hz,hf=>by
  refine⟨fun hc=>?_,fun hc f e j hj=>by simp [Plan.alts]at hj⟩
  simp only [chk,Bool.true_and,Bool.and_eq_true]at hc
  obtain⟨⟨hr,hfree⟩,hc⟩:=hc
  simp only [Plan.dep]at hf
  obtain⟨f,rfl⟩:∃f,fuel=f+1:=⟨fuel-1,by omega⟩
  simp only [runR]at h
  split at h
  ·rename_i o ho
   have hop:ops[i]? =some o:=by rw [←ho,←hall];simp
   have hil:i<L.size:=by rw [hz];exact(Array.getElem?_eq_some_iff.1 hop).1
   have hLi:(L.setIfInBounds i true).getD i false=true:=by simp [Array.getD_eq_getD_getElem?,hil]
   have hdo:=hd o (by rw [←hall];simpa using Array.mem_of_getElem? hop)
   have hri:i∈Region.ready .any ops L:=by simpa using hr
   have hni:=not_listed hri
   have hT':∀t,t∈T→t∈(if((ops[i]?).map isLoad).getD false then i::T else T):=fun t ht=>by split<;>simp [ht]
   have keep:∀(v:Value) (ids':List Nat),(∀t,t∈ids→t∈ids')→JR E.P ops ps (if((ops[i]?).map isLoad).getD false then i::T else T) ids' (L.setIfInBounds i true) (a.put o.dst v) w:=by
    intro v ids' hs p hp
    rcases hJ p hp with h|⟨ht,hm,hL,hw,o',d,T',x,ho',hl,hd',e⟩
    ·exact .inl h
    ·obtain⟨e1,e2⟩:=JR.keeps hst hcl hop hni (put_keeps a o.dst v) hL ho' hl hd'
     exact .inr ⟨hT' _ ht,hs _ hm,getD_set_true hL,hw,o',d,T',x,ho',hl,hd',by rw [e,exec_load hl e1,e2]⟩
   rcases guard_ok hall h g with⟨hw,S1,g1,h1⟩|⟨hw,S1,g1,h1⟩
   ·obtain⟨v,pb,S',β',ob,hrun,hpb,hk,g',hβ,hbad⟩:=quietS_ok hE hdo h1 g1
    have hnone:∀pw,(∀w',pw w'→(execOp a.eval o).run E.P w'= .ok (.value v) w')→pw w→JR E.P ops ((i,pw)::ps) (if((ops[i]?).map isLoad).getD false then i::T else T) (addI i ob ids) (L.setIfInBounds i true) (a.put o.dst v) w→wpAnyP E.P ops Q (f+1) ps L a w:=by
     intro pw hpw hpw0 hJn
     refine wpAnyP_first (pw:=pw) hop (Region.noSelect_spec hsel) hQ f ps L a w hcl (Region.free_spec hop hfree) hri (.inl ⟨hw,hpw⟩) hpw0 hJ.now ?_
     refine(runR_ok hE hq0 hall hQ hsel hst hd hK r _ (addI i ob ids) S' _ _ _ w σ β' f ?_ g' hJn (hcl.add hri) (by simpa using hz) (by omega)).1 hc
     cases ob<;>exact hk
    have hids:∀t,t∈ids→t∈(addI i ob ids):=fun t ht=>by cases ob<;>simp [addI,ht]
    cases pb with
    |none=>
     refine hnone (fun _=>True) (fun w' _=>hrun w' trivial) trivial fun p hp=>?_
     rcases List.mem_cons.1 hp with rfl|hp
     ·exact .inl fun _=>trivial
     ·exact keep v _ hids p hp
    |some bc=>
     obtain⟨b,cs⟩:=bc
     obtain⟨hil',bad,rfl,_⟩:=hbad b cs rfl
     obtain⟨T',x,hl⟩:∃T' x,o.op= .load T' x:=by
      unfold isLoad at hil';split at hil'
      ·rename_i T' x e;exact⟨T',x,e⟩
      ·cases hil'
     obtain⟨d,hdst,hx⟩:=stab_dst hst hop hl
     have hpw0:=hrun w hpb
     have he:(a.put o.dst v).eval x=a.eval x:=by
      cases x with
      |tmp t=>exact put_keeps a o.dst v t fun e=>hx (by rw [hdst]at e;cases e;rfl)
      |const v=>rfl
      |global g=>rfl
      |func f=>rfl
     have hv:(a.put o.dst v).tmps.getD d undef=v:=by
      have:d<a.tmps.size:=by rw [g.sz];exact hdo d hdst
      rw [hdst];simp [Act.put,Array.getD_eq_getD_getElem?,this]
     refine hnone (fun w'=>(execOp a.eval o).run E.P w'= .ok (.value v) w') (fun w' h=>h) hpw0 fun p hp=>?_
     rcases List.mem_cons.1 hp with rfl|hp
     ·exact .inr ⟨by simp [hop,hil'],by simp [addI],hLi,hpw0,o,d,T',x,hop,hl,hdst,by rw [exec_load hl he,hv]⟩
     ·exact keep v _ hids p hp
   ·rw [SS.setK_eq]at h1
    refine wpAnyP_first (v:=undef) (pw:=fun _=>True) hop (Region.noSelect_spec hsel) hQ f ps L a w hcl (Region.free_spec hop hfree) hri (.inr ⟨hw,rfl⟩) trivial hJ.now ?_
    refine(runR_ok hE hq0 hall hQ hsel hst hd hK r _ ids _ _ _ _ w σ β f h1 (g1.set (s:= .raw undef) (v:=undef) (by simp [rel]) o.dst hdo) ?_ (hcl.add hri) (by simpa using hz) (by omega)).1 hc
    intro p hp
    rcases List.mem_cons.1 hp with rfl|hp
    ·exact .inl fun _=>trivial
    ·exact keep undef ids (fun _ h=>h) p hp
  ·exact h.elim
 |.l i keep r alts,T,ids,S,L,ps,a,w,σ,β,fuel,h,g,hJ,hcl,hz,hf=>by
  have two:chk ops (.l i keep r alts) false L T=true→∀f,fuel=f+1→∀j∈(Plan.l i keep r alts).alts,wpOp E.P ops Q j (fun a' w'=>(∀p∈ps,waits ops j p.1=false→p.2 w')∧wpAnyP E.P ops Q f (ps.filter fun p=> !waits ops j p.1) (L.setIfInBounds j true) a' w') a w:=by
   intro hc f e j hj
   subst e
   simp only [chk,Bool.not_false,Bool.true_or,Bool.true_and,Bool.and_eq_true]at hc
   obtain⟨⟨⟨hr,hT⟩,hc1⟩,hc2⟩:=hc
   have hri:i∈Region.ready .any ops L:=by simpa using hr
   simp only [Plan.dep]at hf
   simp only [runR]at h
   split at h
   ·rename_i o ho
    have hop:ops[i]? =some o:=by rw [←ho,←hall];simp
    have hni:=not_listed hri
    have hdo:=hd o (by rw [←hall];simpa using Array.mem_of_getElem? hop)
    have hboth:(forceNL (keepI keep ids) fun act=>guardS all o S (fun S=>stepS E S o fun S=>rechk E all S act (runR E all r act S K))
     (fun S=>SS.setK S o.dst (.raw undef) fun S=>runR E all r act S K))∧(runR E all alts ids S K):=by
     cases alts<;>first|exact h|exact⟨h,trivial⟩
    obtain⟨h,halts⟩:=hboth
    have h:=forceNL_ok h
    simp only [Plan.alts,List.mem_cons]at hj
    rcases hj with rfl|hj
    ·have hJ':JR E.P ops (ps.filter fun p=> !waits ops j p.1) (T.filter fun t=>keep.contains t) (keepI keep ids) L a w:=by
      intro p hp
      rw [List.mem_filter]at hp
      obtain⟨hp,hw⟩:=hp
      rcases hJ p hp with h|⟨ht,hm,rest⟩
      ·exact .inl h
      ·have:=List.all_eq_true.1 hT _ ht
       have hw:waits ops j p.1=false:=by simpa using hw
       rw [hw,Bool.or_false]at this
       exact .inr ⟨by rw [List.mem_filter];exact⟨ht,this⟩,mem_keepI hm (by simpa using this),rest⟩
     have hnow:∀{a' w'},JR E.P ops (ps.filter fun p=> !waits ops j p.1) (T.filter fun t=>keep.contains t) (keepI keep ids) (L.setIfInBounds j true) a' w'→
       wpAnyP E.P ops Q f (ps.filter fun p=> !waits ops j p.1) (L.setIfInBounds j true) a' w'→
       (∀p∈ps,waits ops j p.1=false→p.2 w')∧wpAnyP E.P ops Q f (ps.filter fun p=> !waits ops j p.1) (L.setIfInBounds j true) a' w':=by
      intro a' w' hJn hw
      exact⟨fun p hp hwt=>hJn.now p (by rw [List.mem_filter];exact⟨hp,by simp [hwt]⟩),hw⟩
     have hf':r.dep≤f:=by omega
     unfold wpOp
     rw [hop]
     simp only
     rcases guard_ok hall h g with⟨hw,S1,g1,h1⟩|⟨hw,S1,g1,h1⟩
     ·rw [if_pos hw]
      refine .inl (wp_put (stepS_ok hE hq0 hdo (fun S' a' w' hk ⟨σ',β',hg⟩ hkp=>?_) h1 g1))
      obtain⟨hk,hre⟩:=rechk_ok hE hall hg hk
      have hJn:JR E.P ops (ps.filter fun p=> !waits ops j p.1) (T.filter fun t=>keep.contains t) (keepI keep ids) (L.setIfInBounds j true) a' w':=by
       intro p hp
       rcases hJ' p hp with h|⟨ht,hm,hL,hw,o',d,T',x,ho',hl,hd',e⟩
       ·exact .inl h
       ·obtain⟨e1,e2⟩:=JR.keeps hst hcl hop hni hkp hL ho' hl hd'
        have e3:p.2=fun w'=>(execOp a'.eval o').run E.P w'= .ok (.value (a'.tmps.getD d undef)) w':=by rw [e,exec_load hl e1,e2]
        exact .inr ⟨ht,hm,getD_set_true hL,by rw [e3];exact hre p.1 hm o' d ho' hd',o',d,T',x,ho',hl,hd',e3⟩
      exact hnow hJn ((runR_ok hE hq0 hall hQ hsel hst hd hK r _ _ S' _ _ a' w' σ' β' f hk hg hJn (hcl.add hri) (by simpa using hz) hf').1 hc1)
     ·rw [if_neg (by simp [hw])]
      rw [SS.setK_eq]at h1
      have hJn:JR E.P ops (ps.filter fun p=> !waits ops j p.1) (T.filter fun t=>keep.contains t) (keepI keep ids) (L.setIfInBounds j true) (a.put o.dst undef) w:=by
       intro p hp
       rcases hJ' p hp with h|⟨ht,hm,hL,hw,o',d,T',x,ho',hl,hd',e⟩
       ·exact .inl h
       ·obtain⟨e1,e2⟩:=JR.keeps hst hcl hop hni (put_keeps a o.dst undef) hL ho' hl hd'
        exact .inr ⟨ht,hm,getD_set_true hL,hw,o',d,T',x,ho',hl,hd',by rw [e,exec_load hl e1,e2]⟩
      exact hnow hJn ((runR_ok hE hq0 hall hQ hsel hst hd hK r _ _ _ _ _ _ w σ β f h1 (g1.set (s:= .raw undef) (v:=undef) (by simp [rel]) o.dst hdo) hJn (hcl.add hri) (by simpa using hz) hf').1 hc1)
    ·exact(runR_ok hE hq0 hall hQ hsel hst hd hK alts T ids S L ps a w σ β (f+1) halts g hJ hcl hz (by omega)).2 hc2 f rfl j hj
   ·exact h.elim
  refine⟨fun hc=>?_,two⟩
  have hf':=hf
  simp only [Plan.dep]at hf'
  obtain⟨f,rfl⟩:∃f,fuel=f+1:=⟨fuel-1,by omega⟩
  have hc':=hc
  simp only [chk,Bool.not_true,Bool.false_or,Bool.and_eq_true]at hc'
  obtain⟨⟨⟨⟨hall',hr⟩,hT⟩,hc1⟩,hc2⟩:=hc'
  have hri:i∈Region.ready .any ops L:=by simpa using hr
  refine⟨fun h0=>(by rw [h0]at hri;cases hri),fun j hj=>two ?_ f rfl j ?_⟩
  ·simp only [chk,Bool.not_false,Bool.true_or,Bool.true_and,Bool.and_eq_true]
   exact⟨⟨⟨hr,hT⟩,hc1⟩,hc2⟩
  ·have:=List.all_eq_true.1 hall' j hj
   simpa [Plan.alts]using this
inductive DrawOb (E:Env) (ops:Array Oper) (S:SS) (K:SS→Prop):Prop
 |mk (gs:List Ghost) (p:Plan) (hc:chkAll ops p=true) (h:runG E.npre E.nm gs S fun S=>runP E ops.toList p [] S K)
 |re (gs:List Ghost) (p:Plan) (hc:(chkAll ops p && stabR ops)=true) (h:runG E.npre E.nm gs S fun S=>runR E ops.toList p [] S K)
 |cut (gs:List Ghost) (p:Plan) {Y:Type} (st:Y→SS) (inv:Y→Prop) (hc:chkAll ops p=true)
   (h1:runG E.npre E.nm gs S fun S=>runP E ops.toList p [] S (Gh E.npre E.nm fun S'=>∃y hs,inv y∧Le E.npre hs S' (st y))) (h2:∀y,inv y→K (st y))
theorem GG.drawn {w0 σ0 β0 nt σ β S a w} (g:GG w0 σ0 β0 nt σ β S a w) (n:Nat) (hn:w.drawn≤n):GG w0 σ0 β0 nt σ β S a {w with drawn:=n}:=
 ⟨g.tm,g.sz,g.df,⟨g.hp.ph,g.hp.len,g.hp.ok,g.hp.lt,g.hp.apart,g.hp.psn⟩,⟨g.fr.os,g.fr.tape,⟨g.fr.output.1,Nat.le_trans g.fr.output.2 hn⟩,g.fr.size,g.fr.block,g.fr.le,g.fr.new,g.fr.pre,g.fr.fresh⟩,⟨g.pn.at_,g.pn.fr⟩⟩
theorem draw_any {E:Env} (hE:EnvOK E) {w0 σ0 β0 nt} (hq0:EOK E β0 nt) (hall:∀h,nt.free h=true) (hpn:BP nt) {ops:Array Oper} {Q:Exit→Act→World→Prop} {K:SS→Prop} {S:SS} {a:Act} {w:World}
  (hQ:∀c a w,¬Q (.panic c) a w) (hd:∀o∈ops.toList,∀d,o.dst=some d→d<nt.n)
  (hK:∀S a w,K S→G w0 σ0 β0 nt S a w→Q .normal a w) (h:DrawOb E ops S K) (g:G w0 σ0 β0 nt S a w):wpAny E.P .any ops Q ops.size (Array.replicate ops.size false) a {w with drawn:=w.drawn+1}:=by
 have core:∀(K':SS→Prop) (gs:List Ghost) (p:Plan),chkAll ops p=true→(runG E.npre E.nm gs S fun S=>runP E ops.toList p [] S K')→(∀S a w,K' S→G w0 σ0 β0 nt S a w→Q .normal a w)→wpAny E.P .any ops Q ops.size (Array.replicate ops.size false) a {w with drawn:=w.drawn+1}:=by
  intro K' gs p hc h hK'
  simp only [chkAll,Bool.and_eq_true]at hc
  obtain⟨⟨hdep,hsel⟩,hc⟩:=hc
  obtain⟨σ,β,g⟩:=g
  obtain⟨S',σ',β',hk,g'⟩:=runG_ok gs S h hq0.np.symm hq0.nm g
  refine wpAny_of_P _ [] _ _ _ ?_
  refine(runP_ok hE hq0 hpn hall rfl hQ hsel hd hK' p [] [] S' _ [] a _ σ' β' ops.size hk (g'.drawn _ (Nat.le_succ _)) (fun p hp=>by simp at hp) ?_ (Nat.le_of_ble_eq_true hdep)).1 hc
  intro j oj hj hl e he hb
  exfalso;rw [Array.getD_eq_getD_getElem?,Array.getElem?_replicate]at hl;split at hl<;>cases hl
 cases h with
 |mk gs p hc h=>exact core K gs p hc h hK
 |re gs p hc h=>
  simp only [chkAll,Bool.and_eq_true]at hc
  obtain⟨⟨⟨hdep,hsel⟩,hc⟩,hst⟩:=hc
  obtain⟨σ,β,g⟩:=g
  obtain⟨S',σ',β',hk,g'⟩:=runG_ok gs S h hq0.np.symm hq0.nm g
  refine wpAny_of_P _ [] _ _ _ ?_
  refine(runR_ok hE hq0 rfl hQ hsel hst hd hK p [] [] S' _ [] a _ σ' β' ops.size hk (g'.drawn _ (Nat.le_succ _)) (fun p hp=>by simp at hp) ?_ (by simp) (Nat.le_of_ble_eq_true hdep)).1 hc
  intro j oj hj hl e he hb
  exfalso;rw [Array.getD_eq_getD_getElem?,Array.getElem?_replicate]at hl;split at hl<;>cases hl
 |@cut gs p Y st inv hc h1 h2=>
  refine core _ gs p hc h1 ?_
  rintro S1 a1 w1 hk ⟨σ1,β1,g1⟩
  obtain⟨S'',σ',β',⟨y',hs,hi,hle⟩,hg'⟩:=Gh_ok hk hq0.np.symm hq0.nm g1
  obtain⟨β'',hg''⟩:=hg'.weak hall (by rw [←hq0.np];exact hle)
  exact hK _ _ _ (h2 y' hi) ⟨_,_,hg''⟩
theorem draw_ok {E:Env} (hE:EnvOK E) (hm:E.P.follows .mixedOrders =true) {w0 σ0 β0 nt} (hq0:EOK E β0 nt) (hall:∀h,nt.free h=true) (hpn:BP nt) {ops:Array Oper} {Q:Exit→Act→World→Prop} {K:SS→Prop} {id:Nat} {S:SS} {a:Act} {w:World}
  (hQ:∀c a w,¬Q (.panic c) a w) (hd:∀o∈ops.toList,∀d,o.dst=some d→d<nt.n)
  (hK:∀S a w,K S→G w0 σ0 β0 nt S a w→Q .normal a w) (h:DrawOb E ops S K) (g:G w0 σ0 β0 nt S a w):(Code.region id ops true).wp E.P Q a w:=
 wp_region_any hm (draw_any hE hq0 hall hpn hQ hd hK h g)
end Go.Sx
end
section
namespace Go.Sx
def opsS (E:Env) (all:List Oper):List Oper→SS→(SS→Prop)→Prop
 |[],S,K=>K S
 |o::r,⟨tm,own⟩,K=>match o.guard with
  |none=>stepS E ⟨tm,own⟩ o fun S'=>opsS E all r S' K
  |some (j,want)=>match(all[j]?).bind (·.dst)with
   |some t=>match tlook tm t with
    |.bl b=>match b,want with
     |true,true=>stepS E ⟨tm,own⟩ o fun S'=>opsS E all r S' K
     |false,false=>stepS E ⟨tm,own⟩ o fun S'=>opsS E all r S' K
     |true,false=>SS.setK ⟨tm,own⟩ o.dst (.raw undef) fun S=>opsS E all r S K
     |false,true=>SS.setK ⟨tm,own⟩ o.dst (.raw undef) fun S=>opsS E all r S K
    |.bp p=>match want with
     |true=>CondOb p (stepS E ⟨(t, .bl true)::tm,own⟩ o fun S'=>opsS E all r S' K) (SS.setK ⟨(t, .bl false)::tm,own⟩ o.dst (.raw undef) fun S=>opsS E all r S K)
     |false=>CondOb p (SS.setK ⟨(t, .bl true)::tm,own⟩ o.dst (.raw undef) fun S=>opsS E all r S K) (stepS E ⟨(t, .bl false)::tm,own⟩ o fun S'=>opsS E all r S' K)
    |.raw v=>match noBool v with
     |true=>SS.setK ⟨tm,own⟩ o.dst (.raw undef) fun S=>opsS E all r S K
     |false=>False
    |_=>False
   |none=>False
inductive X|normal|exit (i:Nat)|ret
def Qof (w0:World) (σ0:PH) (β0:List HB) (nt:Par) (K:X→SS→Prop):Exit→Act→World→Prop
 |.normal,a,w=>∃S,K .normal S∧G w0 σ0 β0 nt S a w
 |.exit i,a,w=>∃S,K (.exit i) S∧G w0 σ0 β0 nt S a w
 |.ret,a,w=>∃S,K .ret S∧G w0 σ0 β0 nt S a w
 |_,_,_=>False
theorem opsS_ok {E:Env} (hE:EnvOK E) {w0:World} {σ0:PH} {β0:List HB} {nt:Par} (hnp:EOK E β0 nt) {ops:Array Oper} {all:List Oper} (hall:ops.toList=all) {Q:Exit→Act→World→Prop} {K:SS→Prop}
  (hK:∀S a w,K S→G w0 σ0 β0 nt S a w→Q .normal a w):∀(l:List Oper) (S:SS) (a:Act) (w:World),(∀o∈l,∀d,o.dst=some d→d<nt.n)→opsS E all l S K→G w0 σ0 β0 nt S a w→wpList E.P ops Q l a w
 |[],S,a,w,_,h,g=>hK S a w h g
 |o::r,⟨tm,own⟩,a,w,hd,h,⟨σ,β,g⟩=>by
  have ih:=fun S a w=>opsS_ok hE hnp hall hK r S a w (fun o ho=>hd o (by simp [ho]))
  have hdo:=hd o (by simp)
  have run:∀{S:SS} {σ β},GG w0 σ0 β0 nt σ β S a w→(stepS E S o fun S'=>opsS E all r S' K)→o.wp E.P a w (wpList E.P ops Q r) Q:=fun g h=>stepS_ok hE hnp hdo (fun S' a' w' hk hg=>ih S' a' w' hk hg) h g
  have skip:∀{S:SS} {σ β},GG w0 σ0 β0 nt σ β S a w→opsS E all r (S.set o.dst (.raw undef)) K→wpList E.P ops Q r (a.put o.dst undef) w:=fun g h=>ih _ _ _ h ⟨_,_,g.set (by simp [rel]) _ hdo⟩
  unfold wpList
  simp only [opsS,SS.setK_eq]at h
  split at h
  ·rename_i hg
   rw [if_pos (by simp [Region.wanted,hg])]
   exact .inl (run g h)
  ·rename_i j want hg
   split at h
   ·rename_i t ht
    have hy:∀b,a.tmps.getD t undef= .bool b→yielded ops a.tmps j=some b:=by
     intro b hv
     unfold yielded
     have:(ops[j]?).bind (·.dst)=some t:=by rw [←ht,←hall];simp
     rw [this]
     rw [Array.getD_eq_getD_getElem?]at hv
     cases hq:a.tmps[t]? with
     |none=>rw [hq]at hv;simp [undef]at hv
     |some v=>rw [hq]at hv;simp at hv;subst hv;simp [hq]
    have hw:∀(b:Bool),a.tmps.getD t undef= .bool b→Region.wanted o (yielded ops a.tmps)=(b==want):=by
     intro b hb
     simp only [Region.wanted,hg,hy _ hb]
     cases b<;>cases want<;>rfl
    have hr:=g.tm t
    split at h
    ·rename_i b hs
     simp only [hs,rel]at hr
     rw [hw b hr]
     split at h
     ·rw [if_pos (by decide)];exact .inl (run g h)
     ·rw [if_pos (by decide)];exact .inl (run g h)
     ·rw [if_neg (by decide)];exact skip g h
     ·rw [if_neg (by decide)];exact skip g h
    ·rename_i p hs
     simp only [hs,rel]at hr
     obtain⟨b,hv,hbp⟩:=hr
     have gb:=g.know (t:=t) (s':= .bl b) (by simp only [rel];exact hv)
     rw [hw b hv]
     split at h
     ·obtain⟨h1,h2⟩:=h
      cases b with
      |true=>rw [if_pos (by decide)];exact .inl (run gb (h1 (hbp.1 rfl)))
      |false=>rw [if_neg (by decide)];exact skip gb (h2 (fun hp=>by have:=hbp.2 hp;cases this))
     ·obtain⟨h1,h2⟩:=h
      cases b with
      |true=>rw [if_neg (by decide)];exact skip gb (h1 (hbp.1 rfl))
      |false=>rw [if_pos (by decide)];exact .inl (run gb (h2 (fun hp=>by have:=hbp.2 hp;cases this)))
    ·rename_i v hs
     simp only [hs,rel]at hr
     split at h
     ·rename_i hnb
      rw [wanted_noBool (t:=t) hg (by rw [←ht,←hall];simp) (by rw [hr];exact hnb),if_neg (by decide)]
      exact skip g h
     ·exact h.elim
    ·exact h.elim
   ·exact h.elim
def dsts:List Oper→List Nat
 |[]=>[]
 |o::r=>match o.dst with
  |some d=>d::dsts r
  |none=>dsts r
theorem dsts_mem:∀{l:List Oper} {o:Oper} {d:Nat},o∈l→o.dst=some d→d∈dsts l
 |[],_,_,h,_=>by simp at h
 |x::l,o,d,h,e=>by
  rcases List.mem_cons.1 h with rfl|h
  ·simp [dsts,e]
  ·have:=dsts_mem h e
   unfold dsts;split
   ·simp [this]
   ·exact this
def writes:Code→List Nat
 |.region _ ops _=>dsts ops.toList
 |.seq a b=>writes a++writes b
 |.cond _ t e=>writes t++writes e
 |.block _ c=>writes c
 |.loop c=>writes c
 |.scope c=>writes c
 |_=>[]
def exits (i:Nat):Code→Nat
 |.seq a b=>exits i a+exits i b
 |.cond _ t e=>exits i t+exits i e
 |.block _ c=>exits i c
 |.loop c=>exits i c
 |.scope c=>exits i c
 |.exit j=>match Nat.beq i j with|true=>1|false=>0
 |_=>0
def guarded:List Oper→Nat
 |[]=>1
 |o::r=>match o.guard with
  |some _=>2
  |none=>guarded r
def ways:Code→Nat
 |.skip =>1
 |.region _ ops _=>guarded ops.toList
 |.seq a b=>match ways a,ways b with|0,_=>0|_,0=>0|n,m=>max n m
 |.cond _ t e=>ways t+ways e
 |.block i c=>ways c+exits i c
 |.scope c=>ways c
 |.label _=>1
 |_=>0
abbrev KK:=X→SS→Prop
def seqK (next:SS→Prop) (K:KK):KK
 |.normal,S=>next S
 |x,S=>K x S
def blkK (i:Nat) (K:KK):KK
 |.exit j,S=>match Nat.beq j i with
  |true=>K .normal S
  |false=>K (.exit j) S
 |x,S=>K x S
inductive CutOb (n:Nat) (nm:Bool) (va vb:SS→KK→Prop) (S:SS) (K:KK):Prop
 |split (h:va S (seqK (fun S'=>vb S' K) K)):CutOb n nm va vb S K
 |cut {Y:Type} (st:Y→SS) (inv:Y→Prop)
   (h1:va S (seqK (Gh n nm fun S'=>∃y hs,inv y∧Le n hs S' (st y)) K))
   (h2:∀y,inv y→vb (st y) K):CutOb n nm va vb S K
inductive LoopOb (n:Nat) (nm:Bool) (vb:SS→KK→Prop) (S:SS) (K:KK):Prop
 |mk {Y:Type} (st:Y→SS) (inv:Y→Prop) (μ:Y→Nat) (y0:Y) (hs0:List Nat) (h0:inv y0) (hl:Le n hs0 S (st y0))
   (h:∀y,inv y→vb (st y) (seqK (Gh n nm fun S'=>∃y' hs,inv y'∧μ y'<μ y∧Le n hs S' (st y')) K)):LoopOb n nm vb S K
def vc (E:Env):Code→SS→KK→Prop
 |.skip,S,K=>K .normal S
 |.region _ ops false,S,K=>opsS E ops.toList ops.toList S (K .normal)
 |.region _ ops true,S,K=>DrawOb E ops S (K .normal)
 |.seq a b,S,K=>match ways a with
  |0=>vc E a S (seqK (fun S'=>vc E b S' K) K)
  |1=>vc E a S (seqK (fun S'=>vc E b S' K) K)
  |_=>CutOb E.npre E.nm (vc E a) (vc E b) S K
 |.cond c t e,S,K=>S.evN c fun s=>match s with
  |.bl true=>vc E t S K
  |.bl false=>vc E e S K
  |.bp p=>CondOb p (vc E t S K) (vc E e S K)
  |_=>False
 |.block i c,S,K=>vc E c S (blkK i K)
 |.loop c,S,K=>Gh E.npre E.nm (fun S=>LoopOb E.npre E.nm (vc E c) S K) S
 |.exit i,S,K=>K (.exit i) S
 |.ret,S,K=>K .ret S
 |.label _,S,K=>K .normal S
 |.scope c,S,K=>vc E c S K
 |_,_,_=>False
theorem vc_ok {E:Env} (hE:EnvOK E) (hm:E.P.follows .mixedOrders =true) {w0:World} {σ0:PH} {β0:List HB} {nt:Par} (hnp:EOK E β0 nt) (hpn:BP nt) (hall:∀h,nt.free h=true):
  ∀(c:Code) (S:SS) (K:KK) (a:Act) (w:World),(∀d∈writes c,d<nt.n)→vc E c S K→G w0 σ0 β0 nt S a w→c.wp E.P (Qof w0 σ0 β0 nt K) a w
 |.skip,S,K,a,w,_,h,g=>wp_skip ⟨S,h,g⟩
 |.region id ops false,S,K,a,w,hd,h,g=>wp_region_list (opsS_ok hE hnp rfl (fun S a w hk hg=>⟨S,hk,hg⟩) _ S a w (fun o ho d he=>hd d (dsts_mem ho he)) h g)
 |.region id ops true,S,K,a,w,hd,h,g=>draw_ok hE hm hnp hall hpn (fun _ _ _ h=>h) (fun o ho d he=>hd d (dsts_mem ho he)) (fun S a w hk hg=>⟨S,hk,hg⟩) h g
 |.seq x y,S,K,a,w,hd,h,g=>by
  have hdx:∀d∈writes x,d<nt.n:=fun d h=>hd d (by simp [writes,h])
  have hdy:∀d∈writes y,d<nt.n:=fun d h=>hd d (by simp [writes,h])
  have plain:∀S a w,vc E x S (seqK (fun S'=>vc E y S' K) K)→G w0 σ0 β0 nt S a w→(Code.seq x y).wp E.P (Qof w0 σ0 β0 nt K) a w:=by
   intro S a w h g
   refine wp_seq (wp_mono (vc_ok hE hm hnp hpn hall x S _ a w hdx h g) ?_)
   intro e a' w' hq
   cases e with
   |normal=>obtain⟨S',hk,hg⟩:=hq;exact vc_ok hE hm hnp hpn hall y S' K a' w' hdy hk hg
   |exit i=>exact hq
   |goto l=>exact hq
   |ret=>exact hq
   |panic c=>exact hq
   |outgrown=>exact hq
  simp only [vc]at h
  split at h
  ·exact plain S a w h g
  ·exact plain S a w h g
  ·cases h with
   |split h=>exact plain S a w h g
   |@cut Y st inv h1 h2=>
    refine wp_seq (wp_mono (vc_ok hE hm hnp hpn hall x S _ a w hdx h1 g) ?_)
    intro e a' w' hq
    cases e with
    |normal=>
     obtain⟨S',hk,σ,β,hg⟩:=hq
     obtain⟨S'',σ',β',⟨y',hs,hi,hle⟩,hg'⟩:=Gh_ok hk hnp.np.symm hnp.nm hg
     obtain⟨β'',hg''⟩:=hg'.weak hall (by rw [←hnp.np];exact hle)
     exact vc_ok hE hm hnp hpn hall y _ K a' w' hdy (h2 y' hi) ⟨σ',_,hg''⟩
    |exit i=>exact hq
    |goto l=>exact hq
    |ret=>exact hq
    |panic c=>exact hq
    |outgrown=>exact hq
 |.cond c t e,S,K,a,w,hd,h,⟨σ,β,g⟩=>by
  have hdt:∀d∈writes t,d<nt.n:=fun d h=>hd d (by simp [writes,h])
  have hde:∀d∈writes e,d<nt.n:=fun d h=>hd d (by simp [writes,h])
  obtain⟨s,hc,hq⟩:=g.evN (show S.evN c _ from h)
  clear h
  split at hq
  ·simp only [rel]at hc
   exact wp_cond_true hc (vc_ok hE hm hnp hpn hall t S K a w hdt hq ⟨σ,β,g⟩)
  ·simp only [rel]at hc
   exact wp_cond_false hc (vc_ok hE hm hnp hpn hall e S K a w hde hq ⟨σ,β,g⟩)
  ·simp only [rel]at hc
   obtain⟨b,hc,hbp⟩:=hc
   obtain⟨h1,h2⟩:=hq
   cases b with
   |true=>exact wp_cond_true hc (vc_ok hE hm hnp hpn hall t S K a w hdt (h1 (hbp.1 rfl)) ⟨σ,β,g⟩)
   |false=>exact wp_cond_false hc (vc_ok hE hm hnp hpn hall e S K a w hde (h2 (fun hp=>by have:=hbp.2 hp;cases this)) ⟨σ,β,g⟩)
  ·exact hq.elim
 |.block i c,S,K,a,w,hd,h,g=>by
  refine wp_block (wp_mono (vc_ok hE hm hnp hpn hall c S _ a w hd h g) ?_)
  intro e a' w' hq
  cases e with
  |normal=>exact hq
  |exit j=>
   obtain⟨S',hk,hg⟩:=hq
   simp only [blkK]at hk
   simp only [Exit.inBlock]
   split at hk
   ·rename_i hb;have:=Nat.eq_of_beq_eq_true hb;subst this
    rw [if_pos rfl];exact⟨S',hk,hg⟩
   ·rename_i hb;rw [if_neg (nbeq_false hb)];exact⟨S',hk,hg⟩
  |goto l=>exact hq
  |ret=>exact hq
  |panic c=>exact hq
  |outgrown=>exact hq
 |.loop c,S,K,a,w,hd,h,⟨σ,β,g⟩=>by
  obtain⟨S0,σ0',β0',hk,hg⟩:=Gh_ok h hnp.np.symm hnp.nm g
  obtain⟨st,inv,μ,y0,hs0,h0,hl,hr⟩:=hk
  intro b k cs
  have key:∀(n:Nat) y,μ y=n→inv y→∀a w,G w0 σ0 β0 nt (st y) a w→
    ∃e a' w',Qof w0 σ0 β0 nt K e a' w'∧Arrives E.P (lone (b.at a (.code c:: .inLoop c::k)) cs w) b k cs e a' w':=by
   intro n
   induction n using Nat.strongRecOn with
   |_ n ih=>
    intro y hy hi a w g
    obtain⟨e,a₁,w₁,hq,harr⟩:=vc_ok hE hm hnp hpn hall c _ _ a w hd (hr y hi) g b (.inLoop c::k) cs
    cases e with
    |normal=>
     obtain⟨S',hk,σ',β',hg⟩:=hq
     obtain⟨S'',σ'',β'',⟨y',hs,hi',hlt,hle⟩,hg'⟩:=Gh_ok hk hnp.np.symm hnp.nm hg
     obtain⟨β3,hg3⟩:=hg'.weak hall (by rw [←hnp.np];exact hle)
     obtain⟨e₂,a₂,w₂,hq₂,harr₂⟩:=ih (μ y') (by omega) y' rfl hi' a₁ w₁ ⟨σ'',_,hg3⟩
     exact⟨e₂,a₂,w₂,hq₂, .of_steps (Steps.trans harr (.one step_inLoop)) harr₂⟩
    |exit id=>exact⟨.exit id,a₁,w₁,hq, .pass (x:= .inLoop c) rfl (fun _ _=> .inl (by simp)) harr⟩
    |goto l=>exact hq.elim
    |ret=>exact⟨.ret,a₁,w₁,hq, .pass (x:= .inLoop c) rfl (fun _ _=> .inl (by simp)) harr⟩
    |panic ch=>exact hq.elim
    |outgrown=>exact hq.elim
  obtain⟨β1,hg1⟩:=hg.weak hall (by rw [←hnp.np];exact hl)
  obtain⟨e,a',w',hq,harr⟩:=key _ y0 rfl h0 a w ⟨σ0',_,hg1⟩
  exact⟨e,a',w',hq, .of_steps (.one step_loop) harr⟩
 |.exit i,S,K,a,w,_,h,g=>wp_exit ⟨S,h,g⟩
 |.ret,S,K,a,w,_,h,g=>wp_ret ⟨S,h,g⟩
 |.rangeFunc _ _ _ _,S,K,a,w,_,h,g=>by simp [vc]at h
 |.scope c,S,K,a,w,hd,h,g=>by
  refine wp_scope_straight (wp_mono (vc_ok hE hm hnp hpn hall c S K a w hd h g) ?_)
  intro e a' w' hq
  cases e<;>exact hq
 |.label _,S,K,a,w,_,h,g=>wp_label ⟨S,h,g⟩
 |.goto _,S,K,a,w,_,h,g=>by simp [vc]at h
 |.refuse _,S,K,a,w,_,h,g=>by simp [vc]at h
end Go.Sx
end
section
namespace Go.Sx
def resS (E:Env) (S:SS):List ResultVar→(List SV→Prop)→Prop
 |[],k=>k []
 |.tmp t::r,k=>S.evN (.tmp t) fun s=>resS E S r fun l=>k (s::l)
 |.cell t T::r,k=>S.evN (.tmp t) fun x=>loadS E S T x fun s=>forceV (nrm S.own s) fun s=>resS E S r fun l=>k (s::l)
def oneS (l:List SV):SV:=
 match l with
 |[s]=>s
 |l=> .tup l
def finK (n:Nat) (S:SS) (l:List SV) (post:SV→List Chunk→Prop):Prop:=
 match bndL n l && bndO n (S.own.take n)with
 |true=>forceL (S.own.take n) fun own=>post (oneS l) own
 |false=>post (oneS l) S.own
def retS (E:Env) (rs:List ResultVar) (post:SV→List Chunk→Prop) (S:SS):Prop:=
 Gh E.npre E.nm (fun S=>resS E S rs fun l=>finK E.npre S l post) S
def retK (E:Env) (rs:List ResultVar) (post:SV→List Chunk→Prop):KK
 |.normal,S=>retS E rs post S
 |.ret,S=>retS E rs post S
 |_,_=>False
def resV (tmps:Array Value) (r:ResultVar):Sem Value:=
 match r with
 |.tmp t=>pure (tmps.getD t undef)
 |.cell x t=>do loadVar t (←asAddr (tmps.getD x undef))
theorem resS_ok {E:Env} (hE:EnvOK E) {w0 σ0 β0 nt σ β S a w} (g:GG w0 σ0 β0 nt σ β S a w):∀(rs:List ResultVar) (k:List SV→Prop),resS E S rs k→
  ∃vs l,(rs.mapM (resV a.tmps)).run E.P w= .ok vs w∧relL σ β l vs∧k l
 |[],k,h=>⟨[],[],by simp,by simp [relL],h⟩
 |.tmp t::r,k,h=>by
  obtain⟨s,hs,h⟩:=g.evN h
  obtain⟨vs,l,hrun,hr,hk⟩:=resS_ok hE g r _ h
  exact⟨a.tmps.getD t undef::vs,_,by simp [List.mapM_cons,resV,hrun],relL_cons.2 ⟨hs,hr⟩,hk⟩
 |.cell x t::r,k,h=>by
  obtain⟨s0,hs0,h⟩:=g.evN h
  obtain⟨v,s,hrun1,hr1,hk1⟩:=loadS_ok hE g h hs0
  have hk1:=forceV_ok hk1
  obtain⟨vs,l,hrun,hr,hk⟩:=resS_ok hE g r _ hk1
  refine⟨v::vs,_,?_,relL_cons.2 ⟨rel_nrm g.hp _ _ hr1,hr⟩,hk⟩
  have ha:∃ad,a.tmps.getD x undef= .pointer (some ad):=by
   have he:a.eval (.tmp x)=a.tmps.getD x undef:=rfl
   rw [←he]
   cases hv:a.eval (.tmp x)with
   |pointer p=>cases p with
    |some ad=>exact⟨ad,rfl⟩
    |none=>rw [hv]at hrun1;simp [Instr.loadAt,Instr.sureAddr,stuck]at hrun1
   |_=>rw [hv]at hrun1;simp [Instr.loadAt,Instr.sureAddr,stuck]at hrun1
  obtain⟨ad,had⟩:=ha
  have he:a.eval (.tmp x)= .pointer (some ad):=had
  rw [he]at hrun1
  simp only [Instr.loadAt,Instr.sureAddr,pure_bind]at hrun1
  simp only [List.mapM_cons,resV,had,asAddr,pure_bind,Sem.run_bind,hrun1,Result.andThen_ok,hrun,Sem.run_pure]
theorem results_ok {E:Env} (hE:EnvOK E) {w0 σ0 β0 nt σ β S a w} (g:GG w0 σ0 β0 nt σ β S a w) {fn:Func} {k:List SV→Prop} (h:resS E S fn.results.toList k):
  ∃v l,(results fn a.tmps).run E.P w= .ok v w∧k l∧∀β',relL σ β' l=relL σ β' l∧(∀vs,relL σ β l vs→relL σ β' l vs)→rel σ β' (oneS l) v:=by
 obtain⟨vs,l,hrun,hr,hk⟩:=resS_ok hE g _ _ h
 have hl:=relL_length hr
 have hm:(fn.results.mapM (resV a.tmps)).run E.P w= .ok vs.toArray w:=by
  rw [Array.mapM_eq_mapM_toList]
  simp only [Sem.run_map,hrun,Result.andThen_ok]
 have hres:results fn a.tmps=(fn.results.mapM (resV a.tmps)>>=fun vs=>pure (if h:vs.size=1 then vs[0]else .tuple vs)):=by
  unfold results
  congr 2
 refine⟨_,l,by rw [hres];simp only [Sem.run_bind,hm,Result.andThen_ok,Sem.run_pure];rfl,hk,?_⟩
 rintro β' ⟨_,hβ⟩
 have hr:=hβ vs hr
 match vs,l,hr,hl with
 |[v],[s],hr,_=>simpa [oneS]using(relL_cons.1 hr).1
 |[],[],hr,_=>simp only [oneS,rel];exact⟨[],by simp,hr⟩
 |v::u::vs,s::t::l,hr,_=>simp only [oneS,rel];exact⟨v::u::vs,by simp,hr⟩
 |[],_::_,_,hl=>simp at hl
 |_::_,[],_,hl=>simp at hl
 |[_],_::_::_,_,hl=>simp at hl
 |_::_::_,[_],_,hl=>simp at hl
def zipF:Nat→List SV→(List (Nat×SV)→Prop)→Prop
 |_,[],k=>k []
 |i,s::l,k=>forceN i fun i=>zipF (i+1) l fun r=>k ((i,s)::r)
def zipT:Nat→List SV→List (Nat×SV)
 |_,[]=>[]
 |i,s::l=>(i,s)::zipT (i+1) l
theorem zipF_ok:∀{l:List SV} {i:Nat} {k:List (Nat×SV)→Prop},zipF i l k→k (zipT i l)
 |[],_,_,h=>h
 |s::l,i,k,h=>by
  have h:=forceN_ok h
  exact zipF_ok (l:=l) h
theorem zipT_look:∀(l:List SV) (i t:Nat),tlook (zipT i l) t=if i≤t then(l[t-i]?).getD .any else .any
 |[],i,t=>by simp [zipT,tlook]
 |s::l,i,t=>by
  simp only [zipT,tlook]
  split
  ·rename_i hb;have:=Nat.eq_of_beq_eq_true hb;subst this;simp
  ·rename_i hb
   have hne:=nbeq_false hb
   rw [zipT_look l (i+1) t]
   by_cases h1:i+1≤t
   ·rw [if_pos h1,if_pos (by omega),show t-i=(t-(i+1))+1 by omega];simp
   ·rw [if_neg h1]
    by_cases h2:i≤t
    ·omega
    ·rw [if_neg h2]
def okDst (n:Nat):List Nat→Bool
 |[]=>true
 |d::l=>Nat.ble (d+1) n && okDst n l
theorem okDst_ok {n:Nat}:∀{l:List Nat},okDst n l=true→∀d∈l,d<n
 |[],_,d,hd=>by simp at hd
 |x::l,h,d,hd=>by
  simp only [okDst,Bool.and_eq_true]at h
  rcases List.mem_cons.1 hd with rfl|hd
  ·exact Nat.le_of_ble_eq_true h.1
  ·exact okDst_ok h.2 d hd
theorem fn_intro {E:Env} (hE:EnvOK E) (hm:E.P.follows .mixedOrders =true) {f:Nat} {fn:Func} {c:Code} {args:List SV} {own:List Chunk} {post:SV→List Chunk→Prop} (hn:E.npre=own.length) (hfr:E.free=fun _=>true)
  (hf:E.P.funcs[f]? =some fn) (hname:(fn.name== "runtime.NumGoroutine")=false) (hb:fn.body=some c)
  (hok:(okDst fn.ntmps (writes c) && Nat.ble args.length fn.ntmps)=true)
  (h:zipF 0 args fun tm=>vc E c ⟨tm,own⟩ (retK E fn.results.toList post)):Ctr E.P f args own post:=by
 refine⟨⟨fn,hf,hname,by rw [hb];rfl⟩,fun w σ β vs hH hr=>calls_of_wp hf hb ?_⟩
 have hl:=relL_length hr
 have hnp:E.npre=β.length:=by rw [hH.len,hn]
 rw [Bool.and_eq_true]at hok
 have hal:=Nat.le_of_ble_eq_true hok.2
 have h:=zipF_ok h
 have hq0:EOK E β ⟨fn.ntmps,fun _=>none,fun _=>true,[],fun _=>false⟩:=⟨hnp,hfr,fun _ _=>rfl⟩
 have g:G w σ β ⟨fn.ntmps,fun _=>none,fun _=>true,[],fun _=>false⟩ ⟨zipT 0 args,own⟩ {tmps:=vs.toArray++Array.replicate (fn.ntmps-vs.toArray.size) undef,defers:=[]} w:=by
  refine⟨σ,β,⟨fun t=>?_,by simp;omega,rfl,hH,Fr.refl w σ β,⟨fun _ _ h=>(by cases h),fun _ _ _ _ _ _=>rfl⟩⟩⟩
  rw [zipT_look]
  simp only [Nat.zero_le,if_true,Nat.sub_zero]
  cases hs:args[t]? with
  |none=>simp [rel]
  |some s=>
   obtain⟨v,hv,hrv⟩:=relL_get hr hs
   have:(vs.toArray++Array.replicate (fn.ntmps-vs.toArray.size) undef).getD t undef=v:=by
    have hlt:=lt_of_get? hv
    rw [Array.getD_eq_getD_getElem?,Array.getElem?_append_left (by simpa using hlt)]
    simp [hv]
   rw [this];exact hrv
 refine wp_mono (vc_ok hE hm hq0 ⟨fun _ h=>(by cases h),fun _ _ h=>(by cases h)⟩ (fun _=>rfl) c _ _ _ w (okDst_ok hok.1) h g) ?_
 have fin:∀S a w',retS E fn.results.toList post S→G w σ β ⟨fn.ntmps,fun _=>none,fun _=>true,[],fun _=>false⟩ S a w'→
   a.defers=[]∧∃v,(results fn a.tmps).run E.P w'= .ok v w'∧
    ∃v' σ' β' own' r,Ending.returned v= .returned v'∧HeapOK w' σ' β' own'∧Fr w σ β w' σ' β'∧rel σ' β' r v'∧post r own':=by
  rintro S a w' hk ⟨σ',β',hg⟩
  obtain⟨S',σ'',β'',hk',hg'⟩:=Gh_ok hk hnp.symm hq0.nm hg
  obtain⟨v,l,hrun,hp,hrel⟩:=results_ok hE hg' hk'
  refine⟨hg'.df,v,hrun,?_⟩
  unfold finK at hp
  split at hp
  ·rename_i hbn
   rw [Bool.and_eq_true]at hbn
   rw [forceL_eq]at hp
   exact⟨v,σ'',β''.take E.npre,S'.own.take E.npre,oneS l,rfl,hg'.hp.take hbn.2,hg'.fr.take (by omega),hrel _ ⟨rfl,fun vs h=>relL_bnd _ _ hbn.1 h⟩,hp⟩
  ·exact⟨v,σ'',β'',S'.own,oneS l,rfl,hg'.hp,hg'.fr,hrel _ ⟨rfl,fun _ h=>h⟩,hp⟩
 intro e a w' hq
 cases e with
 |normal=>obtain⟨S,hk,hg⟩:=hq;exact fin S a w' hk hg
 |ret=>obtain⟨S,hk,hg⟩:=hq;exact fin S a w' hk hg
 |exit i=>obtain⟨S,hk,_⟩:=hq;exact hk.elim
 |goto l=>exact hq.elim
 |panic ch=>exact hq.elim
 |outgrown=>exact hq.elim
end Go.Sx
end
section
namespace Go.Sx
def CI:Chunk→Chunk→Prop
 |.box l, .box l'=>ImpL l l'
 |c,c'=>c=c'
def OI:List Chunk→List Chunk→Prop
 |[],[]=>True
 |c::l,c'::l'=>CI c c'∧OI l l'
 |_,_=>False
theorem CI.refl (c:Chunk):CI c c:=by cases c<;>first|exact ImpL.refl _|rfl
theorem OI.refl:∀l:List Chunk,OI l l
 |[]=>trivial
 |c::l=>⟨CI.refl c,OI.refl l⟩
theorem CI.live {c c':Chunk} (h:CI c c'):live c'=live c:=by
 unfold CI at h
 split at h
 ·rfl
 ·rw [h]
theorem CI.ok {c c':Chunk} (h:CI c c') {w σ β x} (hc:chunkOK w σ β c x):chunkOK w σ β c' x:=by
 unfold CI at h
 split at h
 ·obtain⟨b,vs,h1,h2,h3,h4⟩:=hc
  exact⟨b,vs,h1,h2,h3,h.ok h4⟩
 ·rw [←h];exact hc
theorem OI.get:∀{l l':List Chunk},OI l l'→∀{i:Nat} {c':Chunk},l'[i]? =some c'→∃c,l[i]? =some c∧CI c c'
 |[],[],_,i,c',h=>by simp at h
 |[],_::_,h,_,_,_=>h.elim
 |_::_,[],h,_,_,_=>h.elim
 |c::l,d::l',h,i,c',e=>by
  cases i with
  |zero=>simp at e;subst e;exact⟨c,by simp,h.1⟩
  |succ i=>simp at e;obtain⟨x,hx,hc⟩:=OI.get h.2 e;exact⟨x,by simpa using hx,hc⟩
theorem OI.len:∀{l l':List Chunk},OI l l'→l.length=l'.length
 |[],[],_=>rfl
 |[],_::_,h=>h.elim
 |_::_,[],h=>h.elim
 |c::l,d::l',h=>by simp [OI.len h.2]
theorem HeapOK.impO {w σ β own own'} (H:HeapOK w σ β own) (h:OI own own'):HeapOK w σ β own' where
 ph:=H.ph
 len:=by rw [←h.len];exact H.len
 ok:=fun i c x hc hx=>by obtain⟨d,hd,hi⟩:=h.get hc;exact hi.ok (H.ok i d x hd hx)
 lt:=H.lt
 apart:=fun i j c c' x x' b hc hc' hl hl' hx hx' hb hb'=>by
  obtain⟨d,hd,hi⟩:=h.get hc
  obtain⟨d',hd',hi'⟩:=h.get hc'
  exact H.apart i j d d' x x' b hd hd' (by rw [←hi.live];exact hl) (by rw [←hi'.live];exact hl') hx hx' hb hb'
 psn:=fun i c x b hc hl hx hb=>by
  obtain⟨d,hd,hi⟩:=h.get hc
  exact H.psn i d x b hd (by rw [←hi.live];exact hl) hx hb
theorem Ctr.impO {P f args own} {α:Type} {Q:α→Prop} {s:α→SV} {ow:α→List Chunk} (h:Ctr P f args own (fun r o=>∃x,Q x∧OI o (ow x)∧Imp r (s x))):Ctr P f args own (fun r o=>∃x,Q x∧o=ow x∧r=s x):=
 ⟨h.1,fun w σ β vs h1 h2=>(h.2 w σ β vs h1 h2).mono fun _ _ ⟨v,σ',β',own',_,a,b,c,d,x,e0,e1,e2⟩=>⟨v,σ',β',ow x,s x,a,b.impO e1,c,e2 _ _ _ d,x,e0,rfl,rfl⟩⟩
end Go.Sx
end
section
namespace Go.Sx
def ImpR:List (List SV)→List (List SV)→Prop
 |[],[]=>True
 |s::l,s'::l'=>ImpL s s'∧ImpR l l'
 |_,_=>False
theorem impL_len:∀{l l':List SV},ImpL l l'→l.length=l'.length
 |[],[],_=>rfl
 |_::_,_::_,h=>by simp [impL_len h.2]
 |[],_::_,h=>h.elim
 |_::_,[],h=>h.elim
theorem ImpR.ok:∀{l l':List (List SV)},ImpR l l'→∀{σ vss},relLL σ l vss→relLL σ l' vss
 |[],[],_,_,_,h=>h
 |s::l,s'::l',hi,σ,vss,h=>by
  simp only [relLL]at h;obtain⟨v,vs',rfl,h1,h2⟩:=h
  exact relLL_cons.2 ⟨hi.1.ok h1,hi.2.ok h2⟩
 |[],_::_,hi,_,_,_=>hi.elim
 |_::_,[],hi,_,_,_=>hi.elim
theorem ImpR.len:∀{l l':List (List SV)},ImpR l l'→l.length=l'.length
 |[],[],_=>rfl
 |_::_,_::_,h=>by simp [ImpR.len h.2]
 |[],_::_,h=>h.elim
 |_::_,[],h=>h.elim
theorem ImpR.row:∀{l l':List (List SV)} {e:Nat},ImpR l l'→(∀r∈l,r.length=e)→∀r∈l',r.length=e
 |[],[],_,_,_,r,hr=>by simp at hr
 |s::l,s'::l',e,hi,h,r,hr=>by
  rcases List.mem_cons.1 hr with rfl|hr
  ·rw [←impL_len hi.1];exact h s (by simp)
  ·exact ImpR.row hi.2 (fun r hr=>h r (by simp [hr])) r hr
 |[],_::_,_,hi,_,_,_=>hi.elim
 |_::_,[],_,hi,_,_,_=>hi.elim
theorem Imp.fulr {e:Nat} {a b:List (List SV)} (h:ImpR a b):Imp (.ful e a) (.psl e b):=fun σ β v hv=>by
 simp only [rel]at*
 obtain⟨ad,vss,e1,h1,h2,h3⟩:=hv
 refine⟨ad,a.length,vss,by rw [←h.len];exact e1,by rw [h.len];exact Nat.le_refl _,h.ok h1,h.row h2,?_⟩
 rcases h3 with h3|h3
 ·subst h3
  refine .inl ?_
  have:=h.len
  exact List.length_eq_zero_iff.1 this.symm
 ·exact .inr h3
end Go.Sx
end
section
namespace Go.Sx
open Go.ChangeShapes Go.WideShapes Go.RowKit
def sigW (W:World):PH:=fun b=>
 match W.heap[b]? with
 |some (.cells c _ _)=>some c.toList
 |_=>none
theorem sigW_ok (W:World):HeapOK W (sigW W) [] [] where
 ph b cs h:=by
  unfold sigW at h
  split at h
  ·rename_i c T fz e;cases h;exact⟨T,fz,by rw [e]⟩
  ·cases h
 len:=rfl
 ok h c x hc:=by simp at hc
 lt h x b hx:=by simp at hx
 apart h h' c c' x x' b hc:=by simp at hc
 psn h c x b hc:=by simp at hc
theorem sigW_cell {W:World} {a:Addr} {v:Value} (h:W.cell? a=some v):a.spot=none∧∃cs,sigW W a.block=some cs∧cs[a.off]? =some v:=by
 unfold World.cell? at h
 split at h
 ·rename_i c T fz e
  split at h
  ·cases h
  ·rename_i hs
   refine⟨by simpa using hs,c.toList,by simp [sigW,e],by simpa using h⟩
 ·cases h
def Opens (P:Program) (t:TypeId) {α:Type} (S:α→List SV) (side:α→Prop):Prop:=
 ∀{H:Type} (enc:TypeId×Value→H) (W:World) (fuel:Nat) (cs:List Value) (x:DataW H×List MemPlace),
  DataW.trod enc P W 0 (fun _=>true) true fuel t cs=some x→
  cs.length=P.cellsOf t∧(∀v∈cs,scalar v=true)∧(∃a,side a∧relL (sigW W) [] (S a) cs)∧
  DataW.trod enc P W 0 (fun b=>decide (b<W.heap.size)) true fuel t cs=some x
theorem opens_int {P:Program} {t:TypeId} {k:IntKind} (ht:P.underlying t=some (.int k)) (hc:P.cellsOf t=1):
  Opens P t (fun n:Int=>[.num k n]) (fun n=>k.min≤n∧n≤k.max):=by
 intro H enc W fuel cs x h
 obtain⟨n,rfl,rfl,hw⟩:=DataW.trod_int ht h
 refine⟨by simp [hc],by simp [scalar],⟨n,by simpa [Lit.wf]using hw,by simp [relL,rel]⟩,?_⟩
 cases fuel with
 |zero=>simp [DataW.trod]at h
 |succ m=>simp [DataW.trod,ht,hw]
theorem chooseL {α:Type} {n:Nat} {p:Nat→α→Prop} (h:∀i,i<n→∃x,p i x):∃l:List α,l.length=n∧∀i a,l[i]? =some a→p i a:=by
 induction n with
 |zero=>exact⟨[],rfl,fun i a h=>by simp at h⟩
 |succ n ih=>
  obtain⟨l,hl,hp⟩:=ih (fun i hi=>h i (by omega))
  obtain⟨x,hx⟩:=h n (by omega)
  refine⟨l++[x],by simp [hl],fun i a ha=>?_⟩
  rcases getElem?_snoc ha with⟨_,h2⟩|⟨h1,rfl⟩
  ·exact hp i a h2
  ·rw [h1,hl];exact hx
theorem relLL_of {σ:PH}:∀{l:List (List SV)} {vss:List (List Value)},l.length=vss.length→(∀(i:Nat) (r:List SV) (vs:List Value),l[i]? =some r→vss[i]? =some vs→relL σ [] r vs)→relLL σ l vss
 |[],vss,h,_=>by simp only [relLL];exact List.length_eq_zero_iff.1 h.symm
 |r::l,[],h,_=>by simp at h
 |r::l,vs::vss,h,hp=>relLL_cons.2 ⟨hp 0 r vs (by simp) (by simp),relLL_of (by simpa using h) (fun i r vs h1 h2=>hp (i+1) r vs (by simpa using h1) (by simpa using h2))⟩
theorem rows_in {cs:List Value} {off esz:Nat}:∀{n:Nat} {vss:List (List Value)},vss.length=n→(∀i vs,vss[i]? =some vs→vs.length=esz∧∀j,j<esz→cs[off+(i*esz+j)]? =vs[j]?)→
  ∃pre post,cs.drop off=vss.flatten++post∧pre=cs.take off:=by
 intro n vss hn hv
 have key:∀(m:Nat) (vss:List (List Value)) (off:Nat),vss.length=m→(∀i vs,vss[i]? =some vs→vs.length=esz∧∀j,j<esz→cs[off+(i*esz+j)]? =vs[j]?)→∃post,cs.drop off=vss.flatten++post:=by
  intro m
  induction m with
  |zero=>intro vss off h _;exact⟨cs.drop off,by rw [List.length_eq_zero_iff.1 h];simp⟩
  |succ m ih=>
   intro vss off h hv
   match vss,h with
   |vs::vss,h=>
    obtain⟨hl,h0⟩:=hv 0 vs (by simp)
    obtain⟨post,hp⟩:=ih vss (off+esz) (by simpa using h) (fun i vs' hi=>by
     obtain⟨h1,h2⟩:=hv (i+1) vs' (by simpa using hi)
     refine⟨h1,fun j hj=>?_⟩
     rw [←h2 j hj];congr 1;rw [Nat.add_mul,Nat.one_mul];omega)
    refine⟨post,?_⟩
    rw [List.flatten_cons,List.append_assoc,←hp,←List.drop_drop]
    have e1:(cs.drop off).take esz=vs:=by
     apply List.ext_getElem?
     intro j
     rw [List.getElem?_take]
     split
     ·rename_i hj
      have:=h0 j hj
      rw [List.getElem?_drop,←this];congr 1;omega
     ·rename_i hj;rw [List.getElem?_eq_none (by omega)]
    conv=>lhs;rw [←List.take_append_drop esz (cs.drop off),e1]
 obtain⟨post,hp⟩:=key n vss off hn hv
 exact⟨cs.take off,post,hp,rfl⟩
theorem opens_slice {P:Program} {t e:TypeId} {α:Type} {S:α→List SV} {side:α→Prop} (ht:P.underlying t=some (.slice e)) (hc:P.cellsOf t=1) (he:0<P.cellsOf e) (h:Opens P e S side):
  Opens P t (fun l:List α=>[.psl (P.cellsOf e) (l.map S)]) (fun l=>l.length≤maxLen∧∀a∈l,side a):=by
 intro H enc W fuel cs x hx
 rcases DataW.trod_slice ht hx with⟨rfl,rfl⟩|⟨a,len,cap,elems,rest,n,rfl,rfl,rfl,hb,hl,hm,hlen,hel,hsp,hns⟩
 ·refine⟨by simp [hc],by simp [scalar],⟨[],⟨by simp,by simp⟩,?_⟩,?_⟩
  ·refine relL_cons.2 ⟨?_,by simp [relL]⟩
   simp only [rel];exact⟨none,0,[],by simp,by simp,by simp [relLL],by simp,by simp⟩
  ·cases fuel with
   |zero=>simp [DataW.trod]at hx
   |succ m=>simp [DataW.trod,ht]
 ·obtain⟨hrl,hr⟩:=hsp rfl
  have each:∀i,i<cap→∃y cs',(elems++rest)[i]? =some y∧W.cells? 0 (a.add (i*P.cellsOf e)) (P.cellsOf e)=some cs'∧DataW.trod enc P W 0 (fun _=>true) true n e cs'=some y:=by
   intro i hi
   by_cases hil:i<len
   ·have h1:=hel i hil
    rw [List.getElem?_eq_getElem (show i<elems.length by omega)]at h1
    obtain⟨cs',h2,h3⟩:=Option.bind_eq_some_iff.1 h1
    exact⟨_,cs',by rw [List.getElem?_append_left (by omega),List.getElem?_eq_getElem (show i<elems.length by omega)],h2,h3⟩
   ·have h1:=hr (i-len) (by omega)
    rw [List.getElem?_eq_getElem (show i-len<rest.length by omega),show len+(i-len)=i by omega]at h1
    obtain⟨cs',h2,h3⟩:=Option.bind_eq_some_iff.1 h1
    exact⟨_,cs',by rw [List.getElem?_append_right (by omega),hlen,List.getElem?_eq_getElem (show i-len<rest.length by omega)],h2,h3⟩
  have fin:DataW.trod enc P W 0 (fun b=>decide (b<W.heap.size)) true (n+1) t [.slice (some a) len cap]=some (.slice (elems.map (·.1)) (rest.map (·.1)),MemPlace.row a ((elems.length+rest.length)*P.cellsOf e)++(elems++rest).flatMap (·.2)):=by
   have one:∀i,i<cap→(W.cells? 0 (a.add (i*P.cellsOf e)) (P.cellsOf e)).bind (DataW.trod enc P W 0 (fun b=>decide (b<W.heap.size)) true n e)=(elems++rest)[i]? :=by
    intro i hi
    obtain⟨y,cs',h1,h2,h3⟩:=each i hi
    rw [h2,h1];exact(h enc W n cs' y h3).2.2.2
   have hblk:len<cap→a.block<W.heap.size:=by
    intro hlc
    obtain⟨y,cs',h1,h2,h3⟩:=each 0 (by omega)
    obtain⟨_,h4,h5⟩:=World.cells?_some h2
    have h6:=h5 0 he
    rw [List.getElem?_eq_getElem (by omega)]at h6
    obtain⟨_,full,h7,_⟩:=sigW_cell h6
    have h8:=((sigW_ok W).ph _ _ h7).lt
    have e1:((a.add (0*P.cellsOf e)).add 0).block =a.block:=by simp [Addr.add]
    rwa [e1]at h8
   rw [DataW.trod_step]
   unfold DataW.trodStep
   simp only [ht]
   rw [if_pos ⟨hb,hl,hm⟩]
   have m1:(List.range len).mapM (fun i=>(W.cells? 0 (a.add (i*P.cellsOf e)) (P.cellsOf e)).bind (DataW.trod enc P W 0 (fun b=>decide (b<W.heap.size)) true n e))=some elems:=by
    rw [mapM_range_of (g:=fun i=>elems.getD i (.nil,[])) len (fun i hi=>by
     rw [one i (by omega),List.getElem?_append_left (by omega),List.getElem?_eq_getElem (show i<elems.length by omega)];simp [List.getD,show i<elems.length by omega])]
    congr 1
    apply List.ext_getElem
    ·simp [hlen]
    ·intro i h1 h2;simp [List.getD,h2]
   have m2:(List.range (cap-len)).mapM (fun j=>(W.cells? 0 (a.add ((len+j)*P.cellsOf e)) (P.cellsOf e)).bind (DataW.trod enc P W 0 (fun b=>decide (b<W.heap.size)) true n e))=some rest:=by
    rw [mapM_range_of (g:=fun i=>rest.getD i (.nil,[])) (cap-len) (fun i hi=>by
     rw [one (len+i) (by omega),List.getElem?_append_right (by omega),hlen,show len+i-len=i by omega,List.getElem?_eq_getElem (show i<rest.length by omega)];simp [List.getD,show i<rest.length by omega])]
    congr 1
    apply List.ext_getElem
    ·simp [hrl]
    ·intro i h1 h2;simp [List.getD,h2]
   rw [m1]
   simp only [Option.bind_some]
   rw [m2]
   by_cases hlc:len<cap
   ·simp [hblk hlc]
   ·have:rest=[]:=List.length_eq_zero_iff.1 (by omega)
    subst this
    simp
  refine⟨by simp [hc],by simp [scalar],?_,fin⟩
  by_cases hcap:len=0
  ·subst hcap
   refine⟨[],⟨by simp,by simp⟩,relL_cons.2 ⟨?_,by simp [relL]⟩⟩
   simp only [rel];exact⟨some a,cap,[],by simp,by simp,by simp [relLL],by simp,by simp⟩
  obtain⟨y0,cs0,_,q2,_⟩:=each 0 (by omega)
  obtain⟨_,q4,q5⟩:=World.cells?_some q2
  have q6:=q5 0 he
  rw [List.getElem?_eq_getElem (by omega)]at q6
  have e1:(a.add (0*P.cellsOf e)).add 0=a:=by simp [Addr.add]
  rw [e1]at q6
  obtain⟨hspot,full,q7,_⟩:=sigW_cell q6
  obtain⟨b,off,spot⟩:=a
  simp only at hspot q7
  subst hspot
  obtain⟨vss,hv1,hv2⟩:=chooseL (n:=len) (p:=fun i (vs:List Value)=>vs.length=P.cellsOf e∧(∀j,j<P.cellsOf e→full[off+(i*P.cellsOf e+j)]? =vs[j]?)∧(∀v∈vs,scalar v=true)∧∃al,side al∧relL (sigW W) [] (S al) vs) (fun i hi=>by
   obtain⟨y,cs',h1,h2,h3⟩:=each i (by omega)
   obtain⟨_,h4,h5⟩:=World.cells?_some h2
   obtain⟨g1,g2,g3,_⟩:=h enc W n cs' y h3
   refine⟨cs',h4,fun j hj=>?_,g2,g3⟩
   have h6:=h5 j hj
   have hj':j<cs'.length:=by omega
   rw [List.getElem?_eq_getElem hj']at h6
   rw [List.getElem?_eq_getElem hj']
   rw [addr_add,addr_add]at h6
   obtain⟨_,full',h7,h8⟩:=sigW_cell h6
   simp only at h7 h8
   rw [q7]at h7;cases h7
   rw [←h8];congr 1;omega)
  obtain⟨as,ha1,ha2⟩:=chooseL (n:=len) (p:=fun i (al:α)=>side al∧∀vs,vss[i]? =some vs→relL (sigW W) [] (S al) vs) (fun i hi=>by
   obtain⟨_,_,_,al,h1,h2⟩:=hv2 i _ (List.getElem?_eq_getElem (show i<vss.length by omega))
   exact⟨al,h1,fun vs hvs=>by rw [List.getElem?_eq_getElem (show i<vss.length by omega)]at hvs;cases hvs;exact h2⟩)
  refine⟨as,⟨by rw [ha1];omega,fun al hal=>?_⟩,relL_cons.2 ⟨?_,by simp [relL]⟩⟩
  ·obtain⟨i,hi⟩:=List.getElem?_of_mem hal
   exact(ha2 i al hi).1
  ·simp only [rel]
   have hrel:relLL (sigW W) (as.map S) vss:=relLL_of (by simp [ha1,hv1]) (fun i r vs h1 h2=>by
    rw [List.getElem?_map]at h1
    cases hal:as[i]? with
    |none=>rw [hal]at h1;cases h1
    |some al=>rw [hal]at h1;cases h1;exact(ha2 i al hal).2 vs h2)
   refine⟨some ⟨b,off,none⟩,cap,vss,by simp [ha1],by simp [ha1,hl],hrel,?_, .inr ⟨b,off,rfl,?_,?_⟩⟩
   ·intro r hr
    obtain⟨i,hi⟩:=List.getElem?_of_mem hr
    obtain⟨v,hv,hvr⟩:=relLL_get hrel hi
    rw [←relL_length hvr];exact(hv2 i v hv).1
   ·intro v hv
    obtain⟨vs,h1,h2⟩:=List.mem_flatten.1 hv
    obtain⟨i,hi⟩:=List.getElem?_of_mem h1
    exact(hv2 i vs hi).2.2.1 v h2
   ·obtain⟨pre,post,h1,rfl⟩:=rows_in (cs:=full) (off:=off) (esz:=P.cellsOf e) hv1 (fun i vs hi=>⟨(hv2 i vs hi).1,(hv2 i vs hi).2.1⟩)
    refine⟨full.take off,post,?_,?_⟩
    ·rw [q7,List.append_assoc,←h1,List.take_append_drop]
    ·have:=(hv2 0 _ (List.getElem?_eq_getElem (show 0<vss.length by omega))).2.1 0 he
     rw [List.getElem?_eq_getElem (show 0<(vss[0]'(by omega)).length by rw [(hv2 0 _ (List.getElem?_eq_getElem (show 0<vss.length by omega))).1];exact he)]at this
     have hlt:=lt_of_get? this
     rw [List.length_take];omega
end Go.Sx
end
section
namespace Go.Sx
open Go.ChangeShapes Go.WideShapes Go.RowKit
def OpensArg (P:Program) (t:TypeId) {α:Type} (S:α→SV) (side:α→Prop):Prop:=
 ∀{H:Type} (enc:TypeId×Value→H) (W:World) (base:Nat) (v:Value) (d:DataW H) (ps:List MemPlace),
  DataW.Trod enc P W 0 (fun _=>true) true t v d ps→Value.okWide P W .any base t v→
  (∃a,side a∧rel (sigW W) [] (S a) v)∧DataW.Trod enc P W 0 (fun b=>decide (b<W.heap.size)) true t v d ps
theorem okWide_scalar {P:Program} {W:World} {base:Nat} {t:TypeId} {v:Value} {D:TypeDesc} (ht:P.underlying t=some D) (hD:aggD D=false) (h:Value.okWide P W .any base t v):scalar v=true:=by
 unfold Value.okWide at h
 rw [ht]at h
 cases v with
 |agg cs=>exfalso;cases D<;>simp [aggD,Cell.okWide,Cell.ok,ht]at hD h
 |tuple cs=>exfalso;cases D<;>simp [aggD,Cell.okWide,Cell.ok,ht]at hD h
 |_=>rfl
theorem opensArg_one {P:Program} {t:TypeId} {D:TypeDesc} {α:Type} {S:α→SV} {side:α→Prop} (ht:P.underlying t=some D) (hD:aggD D=false) (h:Opens P t (fun a=>[S a]) side):OpensArg P t S side:=by
 intro H enc W base v d ps ⟨fuel,hf⟩ hok
 have hsc:=okWide_scalar ht hD hok
 obtain⟨_,_,⟨a,ha,hr⟩,h4⟩:=h enc W fuel _ _ hf
 refine⟨⟨a,ha,?_⟩,fuel,h4⟩
 rw [scalar_cells hsc]at hr
 exact(relL_cons.1 hr).1
def OpensA (P:Program) (ts:List TypeId) {α:Type} (S:α→List SV) (side:α→Prop):Prop:=
 ∀{H:Type} (enc:TypeId×Value→H) (W:World) (base:Nat) (vs:List Value) (ds:List (DataW H)) (ps:List MemPlace),
  DataW.TrodAll enc P W 0 (fun _=>true) true ts vs ds ps→(∀(j:Nat) t v,ts[j]? =some t→vs[j]? =some v→Value.okWide P W .any base t v)→
  (∃a,side a∧relL (sigW W) [] (S a) vs)∧DataW.TrodAll enc P W 0 (fun b=>decide (b<W.heap.size)) true ts vs ds ps∧ds.length=ts.length
theorem opensA_nil {P:Program}:OpensA P [] (fun _:Unit=>[]) (fun _=>True):=by
 intro H enc W base vs ds ps h _
 obtain⟨rfl,rfl,rfl⟩:=trodAll_nil h
 exact⟨⟨(),trivial,by simp [relL]⟩,rfl,rfl⟩
theorem opensA_cons {P:Program} {t:TypeId} {ts:List TypeId} {α β:Type} {S:α→SV} {side:α→Prop} {S':β→List SV} {side':β→Prop}
  (h:OpensArg P t S side) (h':OpensA P ts S' side'):OpensA P (t::ts) (fun x:α×β=>S x.1::S' x.2) (fun x=>side x.1∧side' x.2):=by
 intro H enc W base vs ds ps hT hok
 obtain⟨v,vs',d,ds',p,q,rfl,rfl,rfl,h1,h2⟩:=trodAll_cons hT
 obtain⟨⟨a,g1,g2⟩,g3⟩:=h enc W base v d p h1 (hok 0 t v (by simp) (by simp))
 obtain⟨⟨b,k1,k2⟩,k3,k4⟩:=h' enc W base vs' ds' q h2 (fun j t' v' hj hv=>hok (j+1) t' v' (by simpa using hj) (by simpa using hv))
 exact⟨⟨(a,b),⟨g1,k1⟩,relL_cons.2 ⟨g2,k2⟩⟩,trodAll_cons_mk g3 k3,by simp [k4]⟩
theorem trodAll_carry {H:Type} {enc:TypeId×Value→H} {P:Program} {w w':World} {sp:Nat→Bool}:∀{ts:List TypeId} {vs:List Value} {ds:List (DataW H)} {ps:List MemPlace},
  DataW.TrodAll enc P w 0 sp true ts vs ds ps→(∀p∈ps,w.sameAt w' p)→DataW.TrodAll enc P w' 0 sp true ts vs ds ps
 |[],vs,ds,ps,h,_=>by obtain⟨rfl,rfl,rfl⟩:=trodAll_nil h;exact trodAll_mk0
 |t::ts,vs,ds,ps,h,hs=>by
  obtain⟨v,vs',d,ds',p,q,rfl,rfl,rfl,⟨n,h1⟩,h2⟩:=trodAll_cons h
  exact trodAll_cons_mk ⟨n,DataW.trod_carry n t _ _ h1 (fun p hp=>hs p (List.mem_append.2 (.inl hp)))⟩ (trodAll_carry h2 (fun p hp=>hs p (List.mem_append.2 (.inr hp))))
theorem law_contract {P:Program} {f:Nat} {fn:Func} {spec:ChangeSpec} {ts:List TypeId} {tb:TypeId} {α:Type} {S:α→List SV} {side:α→Prop}
  (hp:fn.params.toList=ts) (hrt:fn.resultTypes= #[tb]) (htb:P.underlying tb=some .bool)
  (hO:OpensA P ts S side) (hctr:∀a,side a→Ctr P f (S a) [] (fun r _=>r= .bl true)) (hvars:spec.vars=[])
  (hspec:∀(H:Type) (ds:List (DataW H)),ds.length=ts.length→spec.fn H ds={results:=[.lit (.bool true)],args:=ds})
  (H:Type) (enc:TypeId×Value→H) (W:World) (base:Nat) (args:Array Value) (ds gs:List (DataW H)) (before:List MemPlace)
  (hval:∀(j:Nat) t v,fn.params[j]? =some t→args[j]? =some v→Value.okWide P W .any base t v)
  (hW:DataW.Whole enc P fn.params.toList spec.vars false W args.toList ds gs before):
  Calls P f args W fun e W'=>∃v,e= .returned v∧spec.post enc P fn false true false false W args v W':=by
 have hW':=hW
 obtain⟨p,q,hA,hV,rfl,hfz,hnd⟩:=hW
 rw [hvars]at hV
 obtain⟨rfl,rfl⟩:=trodVars_none hV
 rw [hp]at hA
 obtain⟨⟨a,ha,hr⟩,hA2,hlen⟩:=hO enc W base args.toList ds p hA (fun j t v hj hv=>hval j t v (by rw [←hj,←hp];simp) (by simpa using hv))
 refine((hctr a ha).2 W (sigW W) [] args.toList (sigW_ok W) hr).mono fun e W' hq=>?_
 obtain⟨v,σ',β',own',r,rfl,_,hfr,hrel,rfl⟩:=hq
 simp only [rel]at hrel
 subst hrel
 have hold:∀b,b<W.heap.size→W'.heap[b]? =W.heap[b]? :=fun b hb=>hfr.block b hb (by rintro⟨h,x,hx,_⟩;simp at hx)
 have hlt:∀p'∈p,p'.block<W.heap.size:=fun p' hp'=>hW'.lt p' (by simpa using hp')
 have hsame:∀p'∈p,W.sameAt W' p':=by
  intro p' hp'
  have hb:=hold _ (hlt p' hp')
  cases p' with
  |cell b off=>simp only [MemPlace.block]at hb;simp only [World.sameAt,World.cell?,hb]
  |map b=>simpa [World.sameAt,MemPlace.block]using hb
 refine⟨_,rfl,ds,[],p++[],[],p,[],hW',?_,?_,?_,?_,fun h=>by cases h⟩
 ·rw [hrt,List.append_nil,hspec H ds hlen]
  exact trodAll_cons_mk (shut_bool htb true) trodAll_mk0
 ·rw [hp,List.append_nil,hspec H ds hlen]
  exact trodAll_carry hA2 hsame
 ·rw [hvars,List.append_nil,hspec H ds hlen];rfl
 ·refine⟨hfr.os,hfr.output.1,fun i hi=>?_⟩
  have hb:=hold i hi
  rw [hb]
  cases W.heap[i]? with
  |none=>simp
  |some o=>cases o<;>simp
end Go.Sx
end
