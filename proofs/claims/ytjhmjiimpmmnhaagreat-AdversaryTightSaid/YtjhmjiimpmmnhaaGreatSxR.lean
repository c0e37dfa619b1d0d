/- Lemmas of this seat. Conditions: as stated. -/
import Derived.Test.YtjhmjiimpmmnhaaGreatSxC
import Derived.RangeFuncRecord
import Derived.OrdersIn
set_option linter.unusedVariables false
set_option linter.unusedSimpArgs false
section
namespace Go.Sx
abbrev FW (ro:Option Nat):Fence:={fn:=fun _=>True,depth:=none,alive:=false,round:=ro}
theorem wp_in {ro:Option Nat} {n:Nat} {P:Program} {o:Oper} {a:Act} {w:World} {next:Act→World→Prop} {Q:Exit→Act→World→Prop}
  (hdf:∀c,o.op≠ .defer c) (h:o.wp P a w next Q):o.wpIn (FW ro) n P a w next Q:=by
 refine⟨fun _ _=>trivial,?_⟩
 rw [Oper.semAt_eq _ _ _ hdf]
 unfold Oper.wp at h
 generalize (execOp a.eval o).run P w=r at*
 cases r with
 |ok x w'=>
  cases x with
  |value v=>exact h
  |skip=>exact h
  |defer d=>exact h
  |enter f args=>exact⟨fun h=>by simp at h,callsIn_wide (n:=n-1).2 h⟩
  |row row args=>
   refine⟨fun h=>by simp at h,fun c cs _=>?_⟩
   obtain⟨v,w'',hv,hs⟩:=(h:Rows P row args w' _) c cs
   exact⟨v,w'',hv,stepsIn_wide.2 hs⟩
  |_=>exact h.elim
 |halt x w'=>cases x<;>first|exact h|exact h.elim
def opsW (st:SS→Oper→(SS→Prop)→Prop) (all:List Oper):List Oper→SS→(SS→Prop)→Prop
 |[],S,K=>K S
 |o::r,⟨tm,own⟩,K=>match o.guard with
  |none=>st ⟨tm,own⟩ o fun S'=>opsW st all r S' K
  |some (j,want)=>match(all[j]?).bind (·.dst)with
   |some t=>match tlook tm t with
    |.bl b=>match b,want with
     |true,true=>st ⟨tm,own⟩ o fun S'=>opsW st all r S' K
     |false,false=>st ⟨tm,own⟩ o fun S'=>opsW st all r S' K
     |true,false=>SS.setK ⟨tm,own⟩ o.dst (.raw undef) fun S=>opsW st all r S K
     |false,true=>SS.setK ⟨tm,own⟩ o.dst (.raw undef) fun S=>opsW st all r S K
    |.bp p=>match want with
     |true=>CondOb p (st ⟨(t, .bl true)::tm,own⟩ o fun S'=>opsW st all r S' K) (SS.setK ⟨(t, .bl false)::tm,own⟩ o.dst (.raw undef) fun S=>opsW st all r S K)
     |false=>CondOb p (SS.setK ⟨(t, .bl true)::tm,own⟩ o.dst (.raw undef) fun S=>opsW st all r S K) (st ⟨(t, .bl false)::tm,own⟩ o fun S'=>opsW st all r S' K)
    |.raw v=>match noBool v with
     |true=>SS.setK ⟨tm,own⟩ o.dst (.raw undef) fun S=>opsW st all r S K
     |false=>False
    |_=>False
   |none=>False
def StepOK (P:Program) (ro:Option Nat) (w0:World) (σ0:PH) (β0:List HB) (AP:Par→Prop) (st:SS→Oper→(SS→Prop)→Prop):Prop:=
 ∀(nt:Par),AP nt→∀{S:SS} {o:Oper} {K:SS→Prop} {next:Act→World→Prop} {Q:Exit→Act→World→Prop} {a:Act} {w:World} {σ:PH} {β:List HB} (n:Nat),
  (∀d,o.dst=some d→d<nt.n)→(∀S' a' w',K S'→G w0 σ0 β0 nt S' a' w'→next a' w')→st S o K→GG w0 σ0 β0 nt σ β S a w→o.wpIn (FW ro) n P a w next Q
theorem opsW_ok {P:Program} {ro:Option Nat} {w0:World} {σ0:PH} {β0:List HB} {AP:Par→Prop} {st:SS→Oper→(SS→Prop)→Prop} (hst:StepOK P ro w0 σ0 β0 AP st) {nt:Par} (hap:AP nt)
  {ops:Array Oper} {all:List Oper} (hall:ops.toList=all) {Q:Exit→Act→World→Prop} {K:SS→Prop} {n:Nat}
  (hK:∀S a w,K S→G w0 σ0 β0 nt S a w→Q .normal a w):∀(l:List Oper) (S:SS) (a:Act) (w:World),(∀o∈l,∀d,o.dst=some d→d<nt.n)→opsW st all l S K→G w0 σ0 β0 nt S a w→wpListIn (FW ro) n P ops Q l a w
 |[],S,a,w,_,h,g=>hK S a w h g
 |o::r,⟨tm,own⟩,a,w,hd,h,⟨σ,β,g⟩=>by
  have ih:=fun S a w=>opsW_ok hst hap hall (n:=n) hK r S a w (fun o ho=>hd o (by simp [ho]))
  have hdo:=hd o (by simp)
  have run:∀{S:SS} {σ β},GG w0 σ0 β0 nt σ β S a w→(st S o fun S'=>opsW st all r S' K)→o.wpIn (FW ro) n P a w (wpListIn (FW ro) n P ops Q r) Q:=fun g h=>hst nt hap n hdo (fun S' a' w' hk hg=>ih S' a' w' hk hg) h g
  have skip:∀{S:SS} {σ β},GG w0 σ0 β0 nt σ β S a w→opsW st all r (S.set o.dst (.raw undef)) K→((∀f,o.about P w a.eval=some f→(FW ro).fn f)∧wpListIn (FW ro) n P ops Q r (a.put o.dst undef) w):=fun g h=>⟨fun _ _=>trivial,ih _ _ _ h ⟨_,_,g.set (by simp [rel]) _ hdo⟩⟩
  unfold wpListIn
  simp only [opsW,SS.setK_eq]at h
  split at h
  ·rename_i hg
   rw [if_pos (by simp [Region.wanted,hg])]
   exact run g h
  ·rename_i j want hg
   split at h
   ·rename_i t ht
    have hy:∀b,a.tmps.getD t undef= .bool b→yielded ops a.tmps j=some b:=by
     intro b hv
     unfold yielded
     have:(ops[j]?).bind (·.dst)=some t:=by rw [←ht,←hall];simp
     rw [this]
     rw [Array.getD_eq_getD_getElem?]at hv
     cases hq:a.tmps[t]? with
     |none=>rw [hq]at hv;simp [undef]at hv
     |some v=>rw [hq]at hv;simp at hv;subst hv;simp [hq]
    have hw:∀(b:Bool),a.tmps.getD t undef= .bool b→Region.wanted o (yielded ops a.tmps)=(b==want):=by
     intro b hb
     simp only [Region.wanted,hg,hy _ hb]
     cases b<;>cases want<;>rfl
    have hr:=g.tm t
    split at h
    ·rename_i b hs
     simp only [hs,rel]at hr
     rw [hw b hr]
     split at h
     ·rw [if_pos (by decide)];exact run g h
     ·rw [if_pos (by decide)];exact run g h
     ·rw [if_neg (by decide)];exact skip g h
     ·rw [if_neg (by decide)];exact skip g h
    ·rename_i p hs
     simp only [hs,rel]at hr
     obtain⟨b,hv,hbp⟩:=hr
     have gb:=g.know (t:=t) (s':= .bl b) (by simp only [rel];exact hv)
     rw [hw b hv]
     split at h
     ·obtain⟨h1,h2⟩:=h
      cases b with
      |true=>rw [if_pos (by decide)];exact run gb (h1 (hbp.1 rfl))
      |false=>rw [if_neg (by decide)];exact skip gb (h2 (fun hp=>by have:=hbp.2 hp;cases this))
     ·obtain⟨h1,h2⟩:=h
      cases b with
      |true=>rw [if_neg (by decide)];exact skip gb (h1 (hbp.1 rfl))
      |false=>rw [if_pos (by decide)];exact run gb (h2 (fun hp=>by have:=hbp.2 hp;cases this))
    ·rename_i v hs
     simp only [hs,rel]at hr
     split at h
     ·rename_i hnb
      rw [wanted_noBool (t:=t) hg (by rw [←ht,←hall];simp) (by rw [hr];exact hnb),if_neg (by decide)]
      exact skip g h
     ·exact h.elim
    ·exact h.elim
   ·exact h.elim
def noDef:List Oper→Bool
 |[]=>true
 |o::l=>match o.op with
  |.defer _=>false
  |_=>noDef l
theorem noDef_ok:∀{l:List Oper},noDef l=true→∀o∈l,∀c,o.op≠ .defer c
 |[],_,o,h=>by simp at h
 |x::l,h,o,ho=>by
  unfold noDef at h
  split at h
  ·cases h
  ·rename_i hx
   rcases List.mem_cons.1 ho with rfl|ho
   ·exact fun c hc=>hx c hc
   ·exact noDef_ok h o ho
theorem any_in {P:Program} {ro:Option Nat} {m:Nat} {md:Region.Mode} {ops:Array Oper} {Q:Exit→Act→World→Prop} (hnd:∀o∈ops.toList,∀c,o.op≠ .defer c) (hlo:¬LetsOut Q):∀(fuel:Nat) (L:Array Bool) (a:Act) (w:World),wpAny P md ops Q fuel L a w→wpAnyIn (FW ro) m P md ops Q fuel L a w
 |0,L,a,w,h=>h
 |fuel+1,L,a,w,h=>by
  refine⟨h.1,fun i hi=>?_⟩
  have h1:=h.2 i hi
  unfold wpOp at h1
  unfold wpOpIn
  split
  ·rename_i ho;simp only [ho]at h1;exact any_in hnd hlo fuel _ _ _ h1
  ·rename_i o ho
   simp only [ho]at h1
   have hod:∀c,o.op≠ .defer c:=hnd o (by
    have:=Array.mem_of_getElem? ho
    exact Array.mem_toList_iff.2 this)
   split
   ·rename_i hw
    rw [if_pos hw]at h1
    exact Oper.wpIn_mono (fun a w h=>any_in hnd hlo fuel _ _ _ h) (wp_in hod (h1.resolve_right fun h=>hlo h.2))
   ·rename_i hw
    rw [if_neg hw]at h1
    exact⟨fun _ _=>trivial,any_in hnd hlo fuel _ _ _ h1⟩
abbrev Rg:=Operand→Array Tmp→Code→Code→SS→(SS→Prop)→Prop
def vcW (E:Env) (st:SS→Oper→(SS→Prop)→Prop) (rg:Rg):Code→SS→KK→Prop
 |.skip,S,K=>K .normal S
 |.region _ ops false,S,K=>opsW st ops.toList ops.toList S (K .normal)
 |.region _ ops true,S,K=>match noDef ops.toList with
  |true=>DrawOb E ops S (K .normal)
  |false=>False
 |.seq a b,S,K=>match ways a with
  |0=>vcW E st rg a S (seqK (fun S'=>vcW E st rg b S' K) K)
  |1=>vcW E st rg a S (seqK (fun S'=>vcW E st rg b S' K) K)
  |_=>CutOb E.npre E.nm (vcW E st rg a) (vcW E st rg b) S K
 |.cond c t e,S,K=>S.evN c fun s=>match s with
  |.bl true=>vcW E st rg t S K
  |.bl false=>vcW E st rg e S K
  |.bp p=>CondOb p (vcW E st rg t S K) (vcW E st rg e S K)
  |_=>False
 |.block i c,S,K=>vcW E st rg c S (blkK i K)
 |.loop c,S,K=>Gh E.npre E.nm (fun S=>LoopOb E.npre E.nm (vcW E st rg c) S K) S
 |.exit i,S,K=>K (.exit i) S
 |.ret,S,K=>K .ret S
 |.label _,S,K=>K .normal S
 |.rangeFunc g ps a b,S,K=>rg g ps a b S (K .normal)
 |_,_,_=>False
def QofW (w0:World) (σ0:PH) (β0:List HB) (AP:Par→Prop) (K:X→SS→Prop):Exit→Act→World→Prop
 |.normal,a,w=>∃S nt,K .normal S∧AP nt∧G w0 σ0 β0 nt S a w
 |.exit i,a,w=>∃S nt,K (.exit i) S∧AP nt∧G w0 σ0 β0 nt S a w
 |.ret,a,w=>∃S nt,K .ret S∧AP nt∧G w0 σ0 β0 nt S a w
 |_,_,_=>False
def RangeOK (P:Program) (ro:Option Nat) (w0:World) (σ0:PH) (β0:List HB) (AP:Par→Prop) (rg:Rg):Prop:=
 ∀(nt:Par),AP nt→∀(g:Operand) (ps:Array Tmp) (x y:Code) (S:SS) (K:SS→Prop) (a:Act) (w:World) (n:Nat),rg g ps x y S K→G w0 σ0 β0 nt S a w→
  (Code.rangeFunc g ps x y).wpIn (FW ro) n P (fun e a w=>e= .normal ∧∃S nt',K S∧AP nt'∧G w0 σ0 β0 nt' S a w) a w
theorem vcW_ok {E:Env} (hE:EnvOK E) (hmx:E.P.follows .mixedOrders =true) {ro:Option Nat} {w0:World} {σ0:PH} {β0:List HB} {AP:Par→Prop} {N:Nat} (hAP:∀nt,AP nt→nt.n=N∧EOK E β0 nt∧(∀h,nt.free h=true)∧BP nt)
  {st:SS→Oper→(SS→Prop)→Prop} (hst:StepOK E.P ro w0 σ0 β0 AP st) {rg:Rg} (hrg:RangeOK E.P ro w0 σ0 β0 AP rg) (n:Nat):
  ∀(c:Code) (S:SS) (K:KK) (nt:Par) (a:Act) (w:World),(∀d∈writes c,d<N)→vcW E st rg c S K→AP nt→G w0 σ0 β0 nt S a w→c.wpIn (FW ro) n E.P (QofW w0 σ0 β0 AP K) a w
 |.skip,S,K,nt,a,w,_,h,hap,g=>wpIn_skip ⟨S,nt,h,hap,g⟩
 |.region id ops false,S,K,nt,a,w,hd,h,hap,g=>wpIn_region_list (opsW_ok hst hap rfl (fun S a w hk hg=>⟨S,nt,hk,hap,hg⟩) _ S a w (fun o ho d he=>by rw [(hAP nt hap).1];exact hd d (dsts_mem ho he)) h g)
 |.region id ops true,S,K,nt,a,w,hd,h,hap,g=>by
  obtain⟨hnn,hnp,hall,hbp⟩:=hAP nt hap
  simp only [vcW]at h
  split at h
  ·rename_i hnd
   refine wpIn_region_any hmx (any_in (noDef_ok hnd) (fun⟨_,_,h⟩=>h) _ _ _ _ ?_)
   exact draw_any hE hnp hall hbp (fun _ _ _ h=>h) (fun o ho d he=>by rw [hnn];exact hd d (dsts_mem ho he)) (fun S a w hk hg=>⟨S,nt,hk,hap,hg⟩) h g
  ·exact h.elim
 |.seq x y,S,K,nt,a,w,hd,h,hap,g=>by
  have hdx:∀d∈writes x,d<N:=fun d h=>hd d (by simp [writes,h])
  have hdy:∀d∈writes y,d<N:=fun d h=>hd d (by simp [writes,h])
  have plain:∀S a w,vcW E st rg x S (seqK (fun S'=>vcW E st rg y S' K) K)→G w0 σ0 β0 nt S a w→(Code.seq x y).wpIn (FW ro) n E.P (QofW w0 σ0 β0 AP K) a w:=by
   intro S a w h g
   refine wpIn_seq (wpIn_mono (vcW_ok hE hmx hAP hst hrg n x S _ nt a w hdx h hap g) ?_)
   intro e a' w' hq
   cases e with
   |normal=>obtain⟨S',nt',hk,hap',hg⟩:=hq;exact vcW_ok hE hmx hAP hst hrg n y S' K nt' a' w' hdy hk hap' hg
   |exit i=>exact hq
   |goto l=>exact hq
   |ret=>exact hq
   |panic c=>exact hq
   |outgrown=>exact hq
  simp only [vcW]at h
  split at h
  ·exact plain S a w h g
  ·exact plain S a w h g
  ·cases h with
   |split h=>exact plain S a w h g
   |@cut Y st inv h1 h2=>
    refine wpIn_seq (wpIn_mono (vcW_ok hE hmx hAP hst hrg n x S _ nt a w hdx h1 hap g) ?_)
    intro e a' w' hq
    cases e with
    |normal=>
     obtain⟨S',nt',hk,hap',σ,β,hg⟩:=hq
     obtain⟨_,hnp,hall,_⟩:=hAP nt' hap'
     obtain⟨S'',σ',β',⟨y',hs,hi,hle⟩,hg'⟩:=Gh_ok hk hnp.np.symm hnp.nm hg
     obtain⟨β'',hg''⟩:=hg'.weak hall (by rw [←hnp.np];exact hle)
     exact vcW_ok hE hmx hAP hst hrg n y _ K nt' a' w' hdy (h2 y' hi) hap' ⟨σ',_,hg''⟩
    |exit i=>exact hq
    |goto l=>exact hq
    |ret=>exact hq
    |panic c=>exact hq
    |outgrown=>exact hq
 |.cond c t e,S,K,nt,a,w,hd,h,hap,⟨σ,β,g⟩=>by
  have hdt:∀d∈writes t,d<N:=fun d h=>hd d (by simp [writes,h])
  have hde:∀d∈writes e,d<N:=fun d h=>hd d (by simp [writes,h])
  obtain⟨s,hc,hq⟩:=g.evN (show S.evN c _ from h)
  clear h
  split at hq
  ·simp only [rel]at hc
   exact wpIn_cond_true hc (vcW_ok hE hmx hAP hst hrg n t S K nt a w hdt hq hap ⟨σ,β,g⟩)
  ·simp only [rel]at hc
   exact wpIn_cond_false hc (vcW_ok hE hmx hAP hst hrg n e S K nt a w hde hq hap ⟨σ,β,g⟩)
  ·simp only [rel]at hc
   obtain⟨b,hc,hbp⟩:=hc
   obtain⟨h1,h2⟩:=hq
   cases b with
   |true=>exact wpIn_cond_true hc (vcW_ok hE hmx hAP hst hrg n t S K nt a w hdt (h1 (hbp.1 rfl)) hap ⟨σ,β,g⟩)
   |false=>exact wpIn_cond_false hc (vcW_ok hE hmx hAP hst hrg n e S K nt a w hde (h2 (fun hp=>by have:=hbp.2 hp;cases this)) hap ⟨σ,β,g⟩)
  ·exact hq.elim
 |.block i c,S,K,nt,a,w,hd,h,hap,g=>by
  refine wpIn_block (wpIn_mono (vcW_ok hE hmx hAP hst hrg n c S _ nt a w hd h hap g) ?_)
  intro e a' w' hq
  cases e with
  |normal=>exact hq
  |exit j=>
   obtain⟨S',nt',hk,hap',hg⟩:=hq
   simp only [blkK]at hk
   simp only [Exit.inBlock]
   split at hk
   ·rename_i hb;have:=Nat.eq_of_beq_eq_true hb;subst this
    rw [if_pos rfl];exact⟨S',nt',hk,hap',hg⟩
   ·rename_i hb;rw [if_neg (nbeq_false hb)];exact⟨S',nt',hk,hap',hg⟩
  |goto l=>exact hq
  |ret=>exact hq
  |panic c=>exact hq
  |outgrown=>exact hq
 |.loop c,S,K,nt,a,w,hd,h,hap,⟨σ,β,g⟩=>by
  obtain⟨_,hnp,hall,_⟩:=hAP nt hap
  obtain⟨S0,σ0',β0',hk,hg⟩:=Gh_ok h hnp.np.symm hnp.nm g
  obtain⟨st',inv,μ,y0,hs0,h0,hl,hr⟩:=hk
  intro b k cs hro hb hrm
  have key:∀(m:Nat) y,μ y=m→inv y→∀nt a w,AP nt→G w0 σ0 β0 nt (st' y) a w→
    ∃e a' w',QofW w0 σ0 β0 AP K e a' w'∧ArrivesIn (Machine.fenced E.P (FW ro)) E.P (lone (b.atR a (.code c:: .inLoop c::k)) cs w) b k cs e a' w':=by
   intro m
   induction m using Nat.strongRecOn with
   |_ m ih=>
    intro y hy hi nt a w hap g
    obtain⟨e,a₁,w₁,hq,harr⟩:=vcW_ok hE hmx hAP hst hrg n c _ _ nt a w hd (hr y hi) hap g b (.inLoop c::k) cs hro hb hrm
    cases e with
    |normal=>
     obtain⟨S',nt',hk,hap',σ',β',hg⟩:=hq
     obtain⟨_,hnp',hall',_⟩:=hAP nt' hap'
     obtain⟨S'',σ'',β'',⟨y',hs,hi',hlt,hle⟩,hg'⟩:=Gh_ok hk hnp'.np.symm hnp'.nm hg
     obtain⟨β3,hg3⟩:=hg'.weak hall' (by rw [←hnp'.np];exact hle)
     obtain⟨e₂,a₂,w₂,hq₂,harr₂⟩:=ih (μ y') (by omega) y' rfl hi' nt' a₁ w₁ hap' ⟨σ'',_,hg3⟩
     exact⟨e₂,a₂,w₂,hq₂, .of_steps (StepsIn.trans harr (.one (fenced_calm hb hrm rfl) stepR_inLoop)) harr₂⟩
    |exit id=>exact⟨.exit id,a₁,w₁,hq, .pass (x:= .inLoop c) rfl (fun _ _=> .inl (by simp)) harr⟩
    |goto l=>exact hq.elim
    |ret=>exact⟨.ret,a₁,w₁,hq, .pass (x:= .inLoop c) rfl (fun _ _=> .inl (by simp)) harr⟩
    |panic ch=>exact hq.elim
    |outgrown=>exact hq.elim
  obtain⟨β1,hg1⟩:=hg.weak hall (by rw [←hnp.np];exact hl)
  obtain⟨e,a',w',hq,harr⟩:=key _ y0 rfl h0 nt a w hap ⟨σ0',_,hg1⟩
  exact⟨e,a',w',hq, .of_steps (.one (fenced_calm hb hrm rfl) stepR_loop) harr⟩
 |.exit i,S,K,nt,a,w,_,h,hap,g=>wpIn_exit ⟨S,nt,h,hap,g⟩
 |.ret,S,K,nt,a,w,_,h,hap,g=>wpIn_ret ⟨S,nt,h,hap,g⟩
 |.rangeFunc x ps c d,S,K,nt,a,w,_,h,hap,g=>by
  refine wpIn_mono (hrg nt hap x ps c d S (K .normal) a w n h g) ?_
  rintro e a w ⟨rfl,S',nt',hk,hap',hg⟩
  exact⟨S',nt',hk,hap',hg⟩
 |.scope c,S,K,nt,a,w,_,h,hap,g=>by simp [vcW]at h
 |.label _,S,K,nt,a,w,_,h,hap,g=>wpIn_label ⟨S,nt,h,hap,g⟩
 |.goto _,S,K,nt,a,w,_,h,hap,g=>by simp [vcW]at h
 |.refuse _,S,K,nt,a,w,_,h,hap,g=>by simp [vcW]at h
end Go.Sx
end
section
namespace Go.Sx
structure YP where
 L:Nat
 rc:Obj
 m:Nat
 β:List HB
 σ:PH
abbrev yv (L:Nat):Value:= .func (.yield L) #[] #[]
structure Side (Y:YP) (w:World) (σ:PH) (β:List HB):Prop where
 at_:w.heap[Y.L]? =some Y.rc
 fr:∀(h:Nat) (x:HB),β[h]? =some x→Y.L∉x.blks
 pre:β.take Y.m=Y.β
 le:PH.le Y.σ σ
 ml:Y.m≤β.length
 nc:∀cs T fz,Y.rc≠ .cells cs T fz
abbrev EndP (w:World) (σ:PH) (β:List HB) (post:SV→List Chunk→Prop) (e:Ending) (w':World):Prop:=
 ∃v σ' β' own' r,e= .returned v∧HeapOK w' σ' β' own'∧Fr w σ β w' σ' β'∧rel σ' β' r v∧post r own'
def YldAt (F:Fence) (m:Nat) (P:Program) (l:Nat) (args:Array Value) (W:World) (R:Ending→World→Prop):Prop:=
 ∃fn tmps x y,(Instr.yield l args).run P W= .ok (.round l fn tmps x y) W∧RoundIn F m P l fn tmps x y W R
structure CtrY (P:Program) (Y:YP) (args:List SV) (own:List Chunk) (post:SV→List Chunk→Prop):Prop where
 run:∀w σ β vs,HeapOK w σ β own→Side Y w σ β→relL σ β args vs→∀n,YldAt (FW none) n P Y.L vs.toArray w (EndP w σ β post)
structure CtrL (P:Program) (Y:YP) (f:Nat) (args:List SV) (own:List Chunk) (post:SV→List Chunk→Prop):Prop where
 fn:∃fn,P.funcs[f]? =some fn∧(fn.name== "runtime.NumGoroutine")=false∧fn.body.isNone=false
 run:∀w σ β vs,HeapOK w σ β own→Side Y w σ β→relL σ β args vs→Calls P f vs.toArray w (EndP w σ β post)
theorem YldAt.mono {F n P l args W} {R R':Ending→World→Prop} (h:YldAt F n P l args W R) (hp:∀e w',R e w'→R' e w'):YldAt F n P l args W R':=by
 obtain⟨fn,tmps,x,y,h1,h2⟩:=h
 exact⟨fn,tmps,x,y,h1,h2.mono hp⟩
inductive YieldOb (P:Program) (Y:YP) (free:Nat→Bool) (sargs:List SV) (S:SS) (k:SS→SV→Prop):Prop
 |mk (m:Nat) (hm:Y.m=m) (hs:List Nat) {args' args:List SV} {own0:List Chunk} {post:SV→List Chunk→Prop} (hf:CtrY P Y args own0 post) (ha:toCL hs sargs=some args') (hi:ImpL args' args)
   (ho:lend S.own hs=some own0) (hnd:(nodupB hs && allFree free hs)=true) (hfst:(firstN m 0 hs && Nat.ble m hs.length)=true)
   (hk:∀r own',post r own'→forceO (giveBack hs (own'.map (renC (back hs S.own.length))) S.own++(own'.drop hs.length).map (renC (back hs S.own.length))) fun own=>forceV (ren (back hs S.own.length) r) fun s=>S.withTm fun tm=>k ⟨tm,own⟩ s):YieldOb P Y free sargs S k
inductive YOb (v:Value) (L:Nat) (K:Prop):Prop
 |mk (h:v=yv L) (hk:K):YOb v L K
def stepY (E:Env) (Y:YP) (S:SS) (o:Oper) (K:SS→Prop):Prop:=
 match o.op with
 |.call c=>match c.callee with
  |.value f=>S.evN f fun s=>match s with
   |.raw v=>YOb v Y.L (Gh E.npre E.nm (fun S=>forceVL (evL S c.args.toList) fun l=>YieldOb E.P Y E.free l S fun S' s=>S'.setK o.dst s K) S)
   |_=>stepS E S o K
  |_=>stepS E S o K
 |.defer _=>False
 |_=>stepS E S o K
theorem Side.sub {Y:YP} {w0 w:World} {σ0 σ:PH} {β0 β:List HB} {nt:Par} {S:SS} {a:Act} (hS:Side Y w0 σ0 β0) (hp:nt.pin Y.L=some Y.rc) (hall:∀h,nt.free h=true)
  (g:GG w0 σ0 β0 nt σ β S a w) {hs:List Nat} {βc:List HB} (hβ:βc=hs.map fun h=>(β[h]?).getD (hb4 none 0 0 0)) (hlt:∀h∈hs,h<β.length) (hf:(firstN Y.m 0 hs && Nat.ble Y.m hs.length)=true):Side Y w σ βc:=by
 rw [Bool.and_eq_true]at hf
 have hml:=Nat.le_of_ble_eq_true hf.2
 have hβc':∀(j:Nat) (x:HB),βc[j]? =some x→∃h,hs[j]? =some h∧β[h]? =some x:=by
  intro j x hx
  subst hβ
  simp only [List.getElem?_map]at hx
  cases hj:hs[j]? with
  |none=>rw [hj]at hx;cases hx
  |some h=>
   rw [hj]at hx
   have:=hlt h (List.mem_of_getElem? hj)
   simp only [Option.map_some,Option.some.injEq]at hx
   refine⟨h,rfl,?_⟩
   rw [List.getElem?_eq_getElem this]at hx⊢
   simp only [Option.getD_some]at hx;rw [hx]
 refine⟨g.pn.at_ _ _ hp,fun j x hx hb=>?_,?_,fun b cs h=>g.fr.le b cs (hS.le b cs h),by rw [hβ,List.length_map];exact hml,hS.nc⟩
 ·obtain⟨h,_,hh⟩:=hβc' j x hx
  have:=g.pn.fr h x _ hh (.inl (hall h)) hb
  rw [hp]at this;cases this
 ·rw [←hS.pre]
  have hm0:=hS.ml
  apply List.ext_getElem?
  intro i
  by_cases hi:i<Y.m
  ·rw [List.getElem?_take_of_lt hi,List.getElem?_take_of_lt hi]
   have h1:=firstN_ok hf.1 i (by omega)
   rw [Nat.zero_add]at h1
   have h2:β0[i]? =some β0[i]:=List.getElem?_eq_getElem (by omega)
   have h3:=g.fr.pre i _ h2
   rw [h2,hβ]
   simp only [List.getElem?_map,h1,Option.map_some,h3,Option.getD_some]
  ·rw [List.getElem?_eq_none (by rw [List.length_take];omega),List.getElem?_eq_none (by rw [List.length_take];omega)]
def APY (Y:YP) (N:Nat) (nt:Par):Prop:=nt=⟨N,fun b=>if b=Y.L then some Y.rc else none,fun _=>true,[],fun b=>Nat.beq b Y.L⟩
theorem run_yieldOp {P:Program} {c:Call} {f:Operand} (hcal:c.callee= .value f) {a:Act} {w:World} {L:Nat} (hv:a.eval f=yv L) {dst ty pos after guard} {x:Next} (h:(Instr.yield L (c.args.map a.eval)).run P w= .ok x w):
  (execOp a.eval ⟨dst, .call c,ty,pos,after,guard⟩).run P w= .ok x w:=by
 simp [execOp,resolve,hcal,hv,Deferred.ofValue,invoke,h,Result.andThen]
theorem stepY_ok {E:Env} (hE:EnvOK E) {Y:YP} {N:Nat} {w0:World} {σ0:PH} {β0:List HB} (hS:Side Y w0 σ0 β0) (hq:∀nt,APY Y N nt→EOK E β0 nt):StepOK E.P none w0 σ0 β0 (APY Y N) (stepY E Y):=by
 intro nt hap S o K next Q a w σ β n hd hn h g
 have hq0:=hq nt hap
 have hall:∀h,nt.free h=true:=by unfold APY at hap;subst hap;intro _;rfl
 have hpin:nt.pin Y.L=some Y.rc:=by unfold APY at hap;subst hap;simp
 have old:(∀c,o.op≠ .defer c)→stepS E S o K→o.wpIn (FW none) n E.P a w next Q:=fun hdf h=>wp_in hdf (stepS_ok hE hq0 hd hn h g)
 unfold stepY at h
 split at h
 ·rename_i c hop
  split at h
  ·rename_i f hcal
   obtain⟨s,hr,hk⟩:=g.evN h
   split at hk
   ·rename_i v
    obtain⟨rfl,hk⟩:=hk
    simp only [rel]at hr
    obtain⟨S',σ',β',hk,hg⟩:=Gh_ok hk hq0.np.symm hq0.nm g
    rw [forceVL_eq]at hk
    obtain⟨m,hm,hs,hf,ha,hi,ho,hnd,hfst,hk⟩:=hk
    have hargs:=evL_ok hg c.args.toList
    have hfree:E.free=nt.free:=hq0.fr
    rw [hfree]at hnd
    have hlt:∀h∈hs,h<β'.length:=by
     intro h hh
     obtain⟨hol,hoc⟩:=lendL_ok ho
     obtain⟨j,hj⟩:=List.getElem?_of_mem hh
     obtain⟨c,c',hc,_⟩:=hoc j h hj
     rw [hg.hp.len]
     rcases Nat.lt_or_ge h S'.own.length with h'|h'
     ·exact h'
     ·rw [List.getElem?_eq_none h']at hc;cases hc
    have key:=call_gen (k:=fun S' s=>S'.setK o.dst s K) (Run:=fun w R=>∀n,YldAt (FW none) n E.P Y.L (c.args.toList.map a.eval).toArray w R) (fun h hp n=>(h n).mono hp) hg hargs hs
     (fun βc hβ hH ha=>hf.run w σ' βc _ hH (Side.sub hS hpin hall hg hβ hlt (by rw [hm];exact hfst)) ha) ha hi ho hnd hk
    obtain⟨fn,tmps,x,y,hrun,hround⟩:=key (n-1)
    refine⟨fun _ _=>trivial,?_⟩
    rw [Oper.semAt_eq _ _ _ (by rw [hop];simp)]
    have e1:(c.args.toList.map a.eval).toArray =c.args.map a.eval:=by apply Array.ext';simp
    rw [e1]at hrun
    obtain⟨dst,op,ty,pos,after,guard⟩:=o
    dsimp only at hop;subst hop
    rw [run_yieldOp hcal hr hrun]
    refine⟨fun h=>by simp at h,hround.mono ?_⟩
    rintro e w' ⟨v,σ'',β'',S'',s,rfl,hg',hr',hk'⟩
    rw [SS.setK_eq]at hk'
    exact hn _ _ _ hk' ⟨_,_,hg'.set hr' _ hd⟩
   ·exact old (by rw [hop];simp) hk
  ·exact old (by rw [hop];simp) h
 ·exact h.elim
 ·rename_i h1 h2
  exact old (fun c hc=>h2 c hc) h
end Go.Sx
end
section
namespace Go.Sx
theorem HeapOK.putF {w σ β own} (H:HeapOK w σ β own) {L:Nat} (o:Obj) (hn:¬inB β L) (hσ:σ L=none):HeapOK (put w L o) σ β own where
 ph b cs h:=by
  obtain⟨T,fz,e⟩:=H.ph b cs h
  exact⟨T,fz,by rw [put_get_ne (by rintro rfl;rw [hσ]at h;cases h)];exact e⟩
 len:=H.len
 ok h c x hc hx:=chunkOK.step (PH.le.refl _) (HB.le.refl _) (H.ok h c x hc hx) (fun _ _ _ h=>h) (fun _ b hb=>put_get_ne (by rintro rfl;exact hn ⟨h,x,hx,hb⟩))
 lt h x b hx hb:=by have:=H.lt h x b hx hb;simpa using this
 apart:=H.apart
 psn:=H.psn
theorem HeapOK.notLoop {w σ β own} (H:HeapOK w σ β own) {L:Nat} {r:Loop} (h:w.heap[L]? =some (.loop r)):σ L=none:=by
 cases hs:σ L with
 |none=>rfl
 |some cs=>obtain⟨T,fz,e⟩:=H.ph L cs hs;rw [h]at e;cases e
theorem HeapOK.notDef {w σ β own} (H:HeapOK w σ β own) {L:Nat} {r:Option (List Deferred)} (h:w.heap[L]? =some (.deferred r)):σ L=none:=by
 cases hs:σ L with
 |none=>rfl
 |some cs=>obtain⟨T,fz,e⟩:=H.ph L cs hs;rw [h]at e;cases e
theorem Fr.reput {w0 σ0 β0 w σ β} (F:Fr w0 σ0 β0 w σ β) {L:Nat} (o:Obj) (h0:L<w0.heap.size) (hn:¬inB β0 L):Fr (put w0 L o) σ0 β0 (put w L o) σ β:=
 ⟨F.os,F.tape,F.output,by simpa using F.size,fun b hb hi=>by
  rw [put_size]at hb
  by_cases e:b=L
  ·subst e;rw [put_get_same (by have:=F.size;omega),put_get_same hb]
  ·rw [put_get_ne e,put_get_ne e];exact F.block b hb hi,F.le,fun b cs h hb=>F.new b cs h (by simpa using hb),F.pre,fun h x b hx hb=>by rw [put_size];exact F.fresh h x b hx hb⟩
theorem Fr.putN {w0 σ0 β0 w σ β} (F:Fr w0 σ0 β0 w σ β) {L:Nat} (o:Obj) (h0:w0.heap.size≤L):Fr w0 σ0 β0 (put w L o) σ β:=
 ⟨F.os,F.tape,F.output,by simpa using F.size,fun b hb hi=>by rw [put_get_ne (by omega)];exact F.block b hb hi,F.le,F.new,F.pre,F.fresh⟩
theorem Fr.trans {w0 σ0 β0 w1 σ1 β1 w2 σ2 β2} (F:Fr w0 σ0 β0 w1 σ1 β1) (F':Fr w1 σ1 β1 w2 σ2 β2):Fr w0 σ0 β0 w2 σ2 β2:=by
 have hin:∀b,b<w0.heap.size→¬inB β0 b→¬inB β1 b:=by
  rintro b hb hn ⟨h,x,hx,hbx⟩
  rcases F.fresh h x b hx hbx with h1|h1
  ·omega
  ·exact hn h1
 refine⟨F'.os.trans F.os,F'.tape.trans F.tape,⟨F'.output.1.trans F.output.1,Nat.le_trans F.output.2 F'.output.2⟩,Nat.le_trans F.size F'.size,fun b hb hn=>?_,fun b cs h=>F'.le b cs (F.le b cs h),fun b cs h hb=>?_,F.pre.trans F'.pre,fun h x b hx hb=>?_⟩
 ·rw [F'.block b (by have:=F.size;omega) (hin b hb hn),F.block b hb hn]
 ·rcases F'.new b cs h (by have:=F.size;omega)with h1|h1
  ·exact F.new b cs h1 hb
  ·by_cases hn:inB β0 b
   ·exact .inr hn
   ·exact absurd h1 (hin b hb hn)
 ·rcases F'.fresh h x b hx hb with h1|⟨h',y,hy,hby⟩
  ·exact .inl (by have:=F.size;omega)
  ·exact F.fresh h' y b hy hby
theorem put_self {w:World} {L:Nat} {o:Obj} (h:w.heap[L]? =some o):put w L o=w:=by
 have:w.heap.setIfInBounds L o=w.heap:=by
  apply Array.ext_getElem?
  intro i
  by_cases e:i=L
  ·subst e
   rw [Array.getElem?_setIfInBounds_self_of_lt (Array.getElem?_eq_some_iff.1 h).1,h]
  ·exact Array.getElem?_setIfInBounds_ne (fun h=>e h.symm)
 unfold put;rw [this]
theorem not_inB {β:List HB} {L:Nat} (h:∀(i:Nat) (x:HB),β[i]? =some x→L∉x.blks):¬inB β L:=fun⟨i,x,hx,hb⟩=>h i x hx hb
def psS:List Nat→List SV→List (Nat×SV)→List (Nat×SV)
 |p::ps,s::ss,tm=>psS ps ss ((p,s)::tm)
 |_,_,tm=>tm
theorem psS_ok {σ β} {N:Nat}:∀(ps:List Nat) (ss:List SV) (vs:List Value) (tm:List (Nat×SV)) (T:Array Value),(∀p∈ps,p<N)→T.size=N→relL σ β ss vs→ss.length=ps.length→RT σ β tm T→
  RT σ β (psS ps ss tm) ((ps.zip vs).foldl (fun t (p,v)=>t.setIfInBounds p v) T)∧((ps.zip vs).foldl (fun t (p,v)=>t.setIfInBounds p v) T).size =N
 |[],[],vs,tm,T,_,hT,_,_,h=>by simp only [psS,List.zip_nil_left,List.foldl_nil];exact⟨h,hT⟩
 |p::ps,s::ss,vs,tm,T,hp,hT,hr,hl,h=>by
  simp only [relL]at hr
  obtain⟨v,vs',rfl,h1,h2⟩:=hr
  simp only [psS,List.zip_cons_cons,List.foldl_cons]
  refine psS_ok ps ss vs' _ _ (fun q hq=>hp q (by simp [hq])) (by simpa using hT) h2 (by simpa using hl) ?_
  intro t
  simp only [tlook]
  have hpn:=hp p (by simp)
  split
  ·rename_i hb
   have:=Nat.eq_of_beq_eq_true hb;subst this
   rw [Array.getD_eq_getD_getElem?,Array.getElem?_setIfInBounds_self_of_lt (by omega)];exact h1
  ·rename_i hb
   have hne:=nbeq_false hb
   rw [Array.getD_eq_getD_getElem?,Array.getElem?_setIfInBounds_ne hne,←Array.getD_eq_getD_getElem?];exact h t
 |[],_::_,_,_,_,_,_,_,hl,_=>by simp at hl
 |_::_,[],_,_,_,_,_,_,hl,_=>by simp at hl
abbrev bodyE (E:Env) (n:Nat):Env:=⟨E.P,E.tys,n,fun _=>true,true⟩
def stepB (E:Env) (S:SS) (o:Oper) (K:SS→Prop):Prop:=
 match o.op with
 |.defer _=>False
 |_=>stepS E S o K
def noRg:Rg:=fun _ _ _ _ _ _=>False
def noK:KK:=fun _ _=>False
def bodyK (E:Env) (A:List Chunk→Prop):KK
 |.normal,S=>Gh E.npre E.nm (fun S=>finK E.npre S [] fun _ o=>A o) S
 |_,_=>False
def APB (N:Nat) (nt:Par):Prop:=nt=⟨N,fun _=>none,fun _=>true,[],fun _=>false⟩
theorem stepB_ok {E:Env} (hE:EnvOK E) {AP:Par→Prop} {ro:Option Nat} {w0:World} {σ0:PH} {β0:List HB} (hq:∀nt,AP nt→EOK E β0 nt):StepOK E.P ro w0 σ0 β0 AP (stepB E):=by
 intro nt hap S o K next Q a w σ β n hd hn h g
 unfold stepB at h
 split at h
 ·exact h.elim
 ·rename_i h1
  exact wp_in (fun c hc=>h1 c hc) (stepS_ok hE (hq nt hap) hd hn h g)
theorem noRg_ok {P:Program} {ro:Option Nat} {w0:World} {σ0:PH} {β0:List HB} {AP:Par→Prop}:RangeOK P ro w0 σ0 β0 AP noRg:=fun _ _ _ _ _ _ _ _ _ _ _ h=>h.elim
theorem round_ok {E:Env} (hE:EnvOK E) (hmx:E.P.follows .mixedOrders =true) {Y:YP} {rec:Loop} (hrc:Y.rc= .loop rec) (hst:rec.state= .ready ∧rec.pending=none) {tm:List (Nat×SV)} {N:Nat} (hT:RT Y.σ Y.β tm rec.tmps) (hsz:rec.tmps.size=N)
  (hps:∀p∈rec.params.toList,p<N) (hw:∀d∈writes rec.assign++writes rec.body,d<N) {r:List SV} (hrl:r.length=rec.params.toList.length) {o:List Chunk} {A:List Chunk→Prop}
  (hb:vcW (bodyE E o.length) (stepB (bodyE E o.length)) noRg rec.assign ⟨psS rec.params.toList r tm,o⟩ (seqK (fun S1=>vcW (bodyE E o.length) (stepB (bodyE E o.length)) noRg rec.body S1 (bodyK (bodyE E o.length) A)) noK)):
  CtrY E.P Y r o (fun v o'=>v= .bl true∧A o'):=by
 refine⟨fun w σ β vs hH hS hr n=>?_⟩
 have hrec:w.heap[Y.L]? =some (.loop rec):=by rw [←hrc];exact hS.at_
 have hLn:=not_inB hS.fr
 have hLlt:Y.L<w.heap.size:=(Array.getElem?_eq_some_iff.1 hrec).1
 have hvl:=relL_length hr
 have hE':EnvOK (bodyE E o.length):=hE
 have hnp:(bodyE E o.length).npre =β.length:=hH.len.symm
 have hq:∀nt,APB N nt→EOK (bodyE E o.length) β nt:=fun nt h=>by unfold APB at h;subst h;exact⟨hnp,rfl,fun _ _=>rfl⟩
 have hAP:∀nt,APB N nt→nt.n=N∧EOK (bodyE E o.length) β nt∧(∀h,nt.free h=true)∧BP nt:=fun nt h=>⟨by unfold APB at h;rw [h],hq nt h,by unfold APB at h;subst h;exact⟨fun _=>rfl,fun _ h=>(by cases h),fun _ _ h=>(by cases h)⟩⟩
 have hβ:HB.le Y.β β:=by
  intro i x hx
  rw [←hS.pre,List.getElem?_take]at hx
  split at hx
  ·exact hx
  ·cases hx
 obtain⟨hRT,hTs⟩:=psS_ok rec.params.toList r vs tm rec.tmps hps hsz hr hrl (hT.mono hS.le hβ)
 refine⟨rec.fn,_,rec.assign,rec.body,run_yield hrec (by rw [List.size_toArray,hvl,hrl,Array.length_toList]),?_⟩
 have hzip:rec.params.zip vs.toArray=(rec.params.toList.zip vs).toArray :=by apply Array.ext';simp
 have g0:G w σ β ⟨N,fun _=>none,fun _=>true,[],fun _=>false⟩ ⟨psS rec.params.toList r tm,o⟩ {tmps:=(rec.params.zip vs.toArray).foldl (fun t (p,v)=>t.setIfInBounds p v) rec.tmps,defers:=[]} w:=by
  rw [hzip,List.foldl_toArray]
  exact⟨σ,β,⟨hRT,hTs,rfl,hH,Fr.refl w σ β,⟨fun _ _ h=>(by cases h),fun _ _ _ _ _ _=>rfl⟩⟩⟩
 refine roundIn_of_wpIn (F:=FW none) trivial ?_
 show rec.assign.wpIn (FW (some Y.L)) n E.P _ _ _
 refine wpIn_mono (vcW_ok (E:=bodyE E o.length) hE' hmx (ro:=some Y.L) hAP (stepB_ok hE' hq) noRg_ok n rec.assign _ _ _ _ _ (fun d hd=>hw d (by simp [hd])) hb rfl g0) ?_
 intro e a1 w1 hq1
 cases e with
 |normal=>
  obtain⟨S1,nt1,hk1,hap1,σ1,β1,g1⟩:=hq1
  unfold APB at hap1;subst hap1
  have hrec1:w1.heap[Y.L]? =some (.loop rec):=by rw [g1.fr.block _ hLlt hLn];exact hrec
  have hL1:¬inB β1 Y.L:=by
   rintro⟨i,x,hx,hbx⟩
   rcases g1.fr.fresh i x _ hx hbx with h1|h1
   ·omega
   ·exact hLn h1
  refine⟨_,run_beginRound hrec1 hst.1,?_⟩
  show rec.body.wpIn (FW (some Y.L)) n E.P _ _ (put w1 Y.L _)
  have g2:G (put w Y.L (.loop {rec with state:= .busy})) σ β ⟨N,fun _=>none,fun _=>true,[],fun _=>false⟩ S1 a1 (put w1 Y.L (.loop {rec with state:= .busy})):=
   ⟨σ1,β1,⟨g1.tm,g1.sz,g1.df,g1.hp.putF _ hL1 (g1.hp.notLoop hrec1),g1.fr.reput _ hLlt hLn,⟨fun _ _ h=>(by cases h),fun _ _ _ _ _ _=>rfl⟩⟩⟩
  refine wpIn_mono (vcW_ok (E:=bodyE E o.length) hE' hmx (ro:=some Y.L) hAP (stepB_ok hE' hq) noRg_ok n rec.body _ _ _ _ _ (fun d hd=>hw d (by simp [hd])) hk1 rfl g2) ?_
  intro e a3 w3 hq3
  cases e with
  |normal=>
   obtain⟨S3,nt3,hk3,hap3,σ3,β3,g3⟩:=hq3
   unfold APB at hap3;subst hap3
   obtain⟨S4,σ4,β4,hk4,g4⟩:=Gh_ok hk3 hH.len (fun _ _=>rfl) g3
   have hrec3:w3.heap[Y.L]? =some (.loop {rec with state:= .busy}):=by
    rw [g4.fr.block _ (by rw [put_size];exact hLlt) hLn,put_get_same hLlt]
   have hL4:¬inB β4 Y.L:=by
    rintro⟨i,x,hx,hbx⟩
    rcases g4.fr.fresh i x _ hx hbx with h1|h1
    ·rw [put_size]at h1;omega
    ·exact hLn h1
   have hback:({{rec with state:=LoopState.busy}with state:=if(none:Option Code).isNone then LoopState.ready else .done,pending:=none}:Loop)=rec:=by
    obtain⟨h1,h2⟩:=hst
    cases rec;simp only at h1 h2;subst h1;subst h2;rfl
   have hend:=run_endRound (P:=E.P) none hrec3
   rw [hback]at hend
   refine⟨_,_,hend,?_⟩
   have hH5:HeapOK (put w3 Y.L (.loop rec)) σ4 β4 S4.own:=g4.hp.putF _ hL4 (g4.hp.notLoop hrec3)
   have hF5:Fr w σ β (put w3 Y.L (.loop rec)) σ4 β4:=by
    have:=g4.fr.reput (L:=Y.L) (.loop rec) (by rw [put_size];exact hLlt) hLn
    rw [put_put,put_self hrec]at this
    exact this
   unfold finK at hk4
   split at hk4
   ·rename_i hbn
    rw [Bool.and_eq_true]at hbn
    rw [forceL_eq]at hk4
    exact⟨.bool true,σ4,β4.take (bodyE E o.length).npre,S4.own.take (bodyE E o.length).npre, .bl true,rfl,hH5.take hbn.2,hF5.take (by rw [hnp];exact Nat.le_refl _),by simp [rel],rfl,hk4⟩
   ·exact⟨.bool true,σ4,β4,S4.own, .bl true,rfl,hH5,hF5,by simp [rel],rfl,hk4⟩
  |exit i=>obtain⟨S,nt,hk,_⟩:=hq3;exact hk.elim
  |goto l=>exact hq3.elim
  |ret=>obtain⟨S,nt,hk,_⟩:=hq3;exact hk.elim
  |panic c=>exact hq3.elim
  |outgrown=>exact hq3.elim
 |exit i=>obtain⟨S,nt,hk,_⟩:=hq1;exact hk.elim
 |goto l=>exact hq1.elim
 |ret=>obtain⟨S,nt,hk,_⟩:=hq1;exact hk.elim
 |panic c=>exact hq1.elim
 |outgrown=>exact hq1.elim
end Go.Sx
end
section
namespace Go.Sx
inductive RangeOb (E:Env) (N:Nat) (gid:Nat) (caps:List SV) (ps:List Nat) (x y:Code) (S:SS) (k:SS→Prop):Prop
 |mk (m:Nat) (xs:List (List SV)) (A R B:Nat→List Chunk→Prop) (hm:(bndT m S.tm && Nat.ble m S.own.length && okDst N (ps++(writes x++writes y)))=true) (hxs:∀r∈xs,r.length=ps.length)
   (hit:∀Y:YP,Y.m=m→(∀j o r,A j o→xs[j]? =some r→CtrY E.P Y r o (fun v o'=>v= .bl true∧R (j+1) o'))→CtrL E.P Y gid (.raw (yv Y.L)::caps) S.own (fun _ o=>B xs.length o))
   (hbody:∀j o r,A j o→xs[j]? =some r→vcW (bodyE E o.length) (stepB (bodyE E o.length)) noRg x ⟨psS ps r S.tm,o⟩ (seqK (fun S1=>vcW (bodyE E o.length) (stepB (bodyE E o.length)) noRg y S1 (bodyK (bodyE E o.length) (R (j+1)))) noK))
   (hk:∀o,B xs.length o→k ⟨S.tm,o⟩):RangeOb E N gid caps ps x y S k
def rgR (E:Env) (N:Nat):Rg:=fun g ps x y S k=>S.evN g fun s=>match s with
 |.fn gid _=>Gh E.npre E.nm (fun S=>S.evN g fun s=>match s with
  |.fn _ caps=>forceVL caps fun caps=>RangeOb E N gid caps ps.toList x y S k
  |_=>False) S
 |_=>False
def Mark (w0:World) (nt:Par) (d:Deferred):Prop:=∃D,d={target:= .collected D,args:= #[]}∧w0.heap.size≤D∧nt.pin D=some (.deferred (some []))
structure APR (w0:World) (N:Nat) (nt:Par):Prop where
 n:nt.n=N
 fr:nt.free=fun _=>true
 dm:∀d∈nt.ds,Mark w0 nt d
 nd:nt.ds.Nodup
 bp:BP nt
theorem rgR_ok {E:Env} (hE:EnvOK E) (hmx:E.P.follows .mixedOrders =true) {N:Nat} {w0:World} {σ0:PH} {β0:List HB} (hq:∀nt,APR w0 N nt→EOK E β0 nt):RangeOK E.P none w0 σ0 β0 (APR w0 N) (rgR E N):=by
 intro nt hap g ps x y S K a w n h G0
 obtain⟨σ,β,gg⟩:=G0
 have hq0:=hq nt hap
 have hall:∀h,nt.free h=true:=fun h=>by rw [hap.fr]
 obtain⟨s0,hs0,hk⟩:=gg.evN (show S.evN g _ from h)
 split at hk
 case h_2=>exact hk.elim
 rename_i gid caps0
 obtain⟨S,σ,β,hk,gg⟩:=Gh_ok hk hq0.np.symm hq0.nm gg
 obtain⟨s1,hs1,hk⟩:=gg.evN hk
 split at hk
 case h_2=>exact hk.elim
 rename_i gid' caps
 rw [forceVL_eq]at hk
 simp only [rel]at hs0;obtain⟨vs0,hfv0,_⟩:=hs0
 simp only [rel]at hs1;obtain⟨vs,hfv1,hcaps⟩:=hs1
 rw [hfv0]at hfv1;simp only [Value.func.injEq,Fn.func.injEq]at hfv1
 obtain⟨rfl,_,hvs⟩:=hfv1
 obtain⟨m,xs,A,R,B,hm,hxs,hit,hbody,hk⟩:=hk
 simp only [Bool.and_eq_true]at hm
 obtain⟨⟨hbt,hmo⟩,hdst⟩:=hm
 have hmo:=Nat.le_of_ble_eq_true hmo
 have hdst:=okDst_ok hdst
 have hlt:∀(i:Nat) (z:HB) (b:Nat),β[i]? =some z→b∈z.blks→b<w.heap.size:=gg.hp.lt
 refine wpIn_rangeFunc (F:=FW none) ?_
 intro fn _
 obtain⟨rec,hrec⟩:∃rec:Loop,rec={state:= .ready,pending:=none,fn,tmps:=a.tmps,params:=ps,assign:=x,body:=y,defers:=w.heap.size}:=⟨_,rfl⟩
 obtain⟨w1,hw1⟩:∃w1,(w.alloc (.deferred (some []))).alloc (.loop rec)=w1:=⟨_,rfl⟩
 have hsz1:w1.heap.size=w.heap.size+2:=by rw [←hw1];simp
 have hL1:w1.heap[w.heap.size+1]? =some (.loop rec):=by
  rw [←hw1];have:=heap_alloc_new (w.alloc (.deferred (some []))) (.loop rec);rwa [World.size_alloc]at this
 have hD1:w1.heap[w.heap.size]? =some (.deferred (some [])):=by
  rw [←hw1,heap_alloc_lt _ _ (by simp)];exact heap_alloc_new w _
 have g1:GG w0 σ0 β0 nt σ β S a w1:=by
  rw [←hw1]
  exact⟨gg.tm,gg.sz,gg.df,(gg.hp.alloc _).alloc _,(gg.fr.alloc _).alloc _,(gg.pn.alloc _).alloc _⟩
 let Y:YP:=⟨w.heap.size+1, .loop rec,m,β.take m,σ⟩
 have hLb:¬inB β (w.heap.size+1):=by rintro⟨i,z,hz,hb⟩;have:=hlt i z _ hz hb;omega
 have hDb:¬inB β w.heap.size:=by rintro⟨i,z,hz,hb⟩;have:=hlt i z _ hz hb;omega
 have hS:Side Y w1 σ β:=⟨hL1,fun i z hz hb=>hLb ⟨i,z,hz,hb⟩,rfl,PH.le.refl _,by rw [gg.hp.len];exact hmo,fun _ _ _ h=>by cases h⟩
 have hT:RT Y.σ Y.β S.tm rec.tmps:=fun t=>by rw [hrec];exact rel_bnd _ _ (bndT_at t hbt) (gg.tm t)
 have hctr:=hit Y rfl (fun j o r hA hr=>round_ok hE hmx (Y:=Y) (rec:=rec) rfl (by rw [hrec];exact⟨rfl,rfl⟩) hT (by rw [hrec];exact gg.sz.trans hap.n)
  (fun p hp=>hdst p (by rw [hrec]at hp;simp [hp])) (fun d hd=>hdst d (by rw [hrec]at hd;simp only [List.mem_append]at hd⊢;exact .inr hd)) (by rw [hrec];exact hxs r (List.mem_of_getElem? hr)) (by rw [hrec];exact hbody j o r hA hr))
 obtain⟨⟨fd,hfd,hnm,hbd⟩,hrun⟩:=hctr
 have eg:∀args w,(callFunc gid args).run E.P w= .ok (.enter gid args) w:=fun args w=>by
  unfold callFunc
  simp only [Sem.run_bind]
  rw [run_program]
  simp only [Result.andThen_ok,hfd,hnm,hbd,Bool.false_eq_true,if_false,Sem.run_pure]
 refine⟨w.heap.size+1,[{target:= .collected w.heap.size,args:= #[]}],w1,{target:= .fn (.func gid) vs0.toArray,args:= #[yv (w.heap.size+1)]},w1,gid,
  #[yv (w.heap.size+1)]++vs0.toArray,w1,?_,?_,fun _ _=>trivial,?_,fun h=>by simp at h,?_⟩
 ·rw [←hw1,hrec];exact run_enterLoop_outer _ _ _ _ _
 ·simp [resolve,hfv0,Deferred.ofValue];rfl
 ·simp [invoke,eg]
 ·have hargs:relL σ β (.raw (yv Y.L)::caps) (yv (w.heap.size+1)::vs):=relL_cons.2 ⟨by simp only [rel];rfl,hcaps⟩
  have e1: #[yv (w.heap.size+1)]++vs0.toArray=(yv (w.heap.size+1)::vs).toArray :=by rw [hvs];apply Array.ext';simp
  rw [e1]
  refine callsIn_wide.2 ((hrun w1 σ β _ g1.hp hS hargs).mono ?_)
  rintro e w2 ⟨v,σ2,β2,own2,r,rfl,hH2,hF2,_,hA2⟩
  have hL2:w2.heap[w.heap.size+1]? =some (.loop rec):=by rw [hF2.block _ (by omega) hLb];exact hL1
  have hD2:w2.heap[w.heap.size]? =some (.deferred (some [])):=by rw [hF2.block _ (by omega) hDb];exact hD1
  have hLb2:¬inB β2 (w.heap.size+1):=by
   rintro⟨i,z,hz,hb⟩
   rcases hF2.fresh i z _ hz hb with h1|h1
   ·omega
   ·exact hLb h1
  have hDb2:¬inB β2 w.heap.size:=by
   rintro⟨i,z,hz,hb⟩
   rcases hF2.fresh i z _ hz hb with h1|h1
   ·omega
   ·exact hDb h1
  have hend:=run_endLoop (P:=E.P) hL2 (by rw [hrec];simp)
  have hpe:rec.pending=none:=by rw [hrec]
  rw [hpe]at hend
  have hsz0:=gg.fr.size
  have hpD:nt.pin w.heap.size=none:=gg.pn.new (Nat.le_refl _)
  refine⟨none,_,hend,rfl,⟨S.tm,own2⟩,⟨nt.n,fun b=>if b=w.heap.size then some (.deferred (some []))else nt.pin b,nt.free,{target:= .collected w.heap.size,args:= #[]}::nt.ds,fun b=>Nat.beq b w.heap.size||nt.hd b⟩,hk own2 hA2,⟨hap.n,hap.fr,fun d hd=>?_,List.nodup_cons.2 ⟨fun hm=>?_,hap.nd⟩,⟨fun b hb=>?_,fun b o hb=>?_⟩⟩,σ2,β2,?_⟩
  ·rcases List.mem_cons.1 hd with rfl|hd
   ·exact⟨w.heap.size,rfl,hsz0,by simp⟩
   ·obtain⟨D,e1,e2,e3⟩:=hap.dm d hd
    refine⟨D,e1,e2,?_⟩
    dsimp only
    rw [if_neg (by rintro rfl;rw [hpD]at e3;cases e3)];exact e3
  ·obtain⟨D,e1,_,e3⟩:=hap.dm _ hm
   simp only [Deferred.mk.injEq,Target.collected.injEq,and_true]at e1
   rw [←e1,hpD]at e3;cases e3
  ·dsimp only at hb⊢
   split
   ·simp
   ·rename_i hne
    rw [Bool.or_eq_true]at hb
    rcases hb with hb|hb
    ·exact absurd (Nat.eq_of_beq_eq_true hb) hne
    ·exact hap.bp.a b hb
  ·dsimp only at hb⊢
   split at hb
   ·rename_i e;subst e;cases hb
    exact⟨by rw [Nat.beq_refl];rfl,fun _ _ _ h=>by cases h⟩
   ·obtain⟨h1,h2⟩:=hap.bp.b b o hb
    exact⟨by rw [h1,Bool.or_true],h2⟩
  ·have hsz2:=hF2.size
   refine⟨gg.tm.mono hF2.le hF2.pre,gg.sz,by show _::a.defers=_;rw [gg.df],hH2.putF _ hLb2 (hH2.notLoop hL2),?_,?_⟩
   ·exact(g1.fr.trans hF2).putN _ (by omega)
   ·refine⟨fun b o hb=>?_,fun i z b hz _ hb=>?_⟩
    ·dsimp only at hb
     show(put w2 (w.heap.size+1) _).heap[b]? =_
     split at hb
     ·rename_i e;subst e;cases hb
      rw [put_get_ne (by omega)];exact hD2
     ·have hb1:=gg.pn.lt hb
      rw [put_get_ne (by omega),hF2.block b (by omega) (by
       rintro⟨i,z,hz,hbz⟩
       have:=gg.pn.fr i z b hz (.inl (hall i)) hbz
       rw [hb]at this;cases this)]
      exact g1.pn.at_ b o hb
    ·dsimp only
     split
     ·rename_i e;subst e;exact absurd ⟨i,z,hz,hb⟩ hDb2
     ·rcases hF2.fresh i z b hz hb with h1|⟨i',z',hz',hb'⟩
      ·exact gg.pn.new (by omega)
      ·exact gg.pn.fr i' z' b hz' (.inl (hall i')) hb'
theorem start_rt {σ:PH} {β:List HB} {args:List SV} {vs:List Value} (hr:relL σ β args vs) (n:Nat):RT σ β (zipT 0 args) (vs.toArray++Array.replicate (n-vs.toArray.size) undef):=by
 intro t
 rw [zipT_look]
 simp only [Nat.zero_le,if_true,Nat.sub_zero]
 cases hs:args[t]? with
 |none=>simp [rel]
 |some s=>
  obtain⟨v,hv,hrv⟩:=relL_get hr hs
  have:(vs.toArray++Array.replicate (n-vs.toArray.size) undef).getD t undef=v:=by
   have hlt:=lt_of_get? hv
   rw [Array.getD_eq_getD_getElem?,Array.getElem?_append_left (by simpa using hlt)]
   simp [hv]
  rw [this];exact hrv
theorem fin_ok {E:Env} (hE:EnvOK E) {w σ} {β:List HB} (hnp:E.npre=β.length) {nt:Par} (hnm:E.nm=true→∀h,nt.free h=true) {fn:Func} {post:SV→List Chunk→Prop} {S:SS} {a:Act} {w':World} (hk:retS E fn.results.toList post S) (hg:G w σ β nt S a w'):
  ∃v,(results fn a.tmps).run E.P w'= .ok v w'∧EndP w σ β post (.returned v) w':=by
 obtain⟨σ',β',hg⟩:=hg
 obtain⟨S',σ'',β'',hk',hg'⟩:=Gh_ok hk hnp.symm hnm hg
 obtain⟨v,l,hrun,hp,hrel⟩:=results_ok hE hg' hk'
 refine⟨v,hrun,?_⟩
 unfold finK at hp
 split at hp
 ·rename_i hbn
  rw [Bool.and_eq_true]at hbn
  rw [forceL_eq]at hp
  exact⟨v,σ'',β''.take E.npre,S'.own.take E.npre,oneS l,rfl,hg'.hp.take hbn.2,hg'.fr.take (by omega),hrel _ ⟨rfl,fun vs h=>relL_bnd _ _ hbn.1 h⟩,hp⟩
 ·exact⟨v,σ'',β'',S'.own,oneS l,rfl,hg'.hp,hg'.fr,hrel _ ⟨rfl,fun _ h=>h⟩,hp⟩
theorem fn_introY {E:Env} (hE:EnvOK E) (hmx:E.P.follows .mixedOrders =true) {Y:YP} {f:Nat} {fn:Func} {c:Code} {args:List SV} {own:List Chunk} {post:SV→List Chunk→Prop} (hn:E.npre=own.length) (hfr:E.free=fun _=>true)
  (hf:E.P.funcs[f]? =some fn) (hname:(fn.name== "runtime.NumGoroutine")=false) (hb:fn.body=some c)
  (hok:(okDst fn.ntmps (writes c) && Nat.ble args.length fn.ntmps)=true)
  (h:zipF 0 args fun tm=>vcW E (stepY E Y) noRg c ⟨tm,own⟩ (retK E fn.results.toList post)):CtrL E.P Y f args own post:=by
 refine⟨⟨fn,hf,hname,by rw [hb];rfl⟩,fun w σ β vs hH hS hr=>calls_of_wp hf hb ?_⟩
 have hl:=relL_length hr
 have hnp:E.npre=β.length:=by rw [hH.len,hn]
 rw [Bool.and_eq_true]at hok
 have hal:=Nat.le_of_ble_eq_true hok.2
 have h:=zipF_ok h
 have hq:∀nt,APY Y fn.ntmps nt→EOK E β nt:=fun nt hnt=>by unfold APY at hnt;subst hnt;exact⟨hnp,hfr,fun _ _=>rfl⟩
 have hAP:∀nt,APY Y fn.ntmps nt→nt.n=fn.ntmps∧EOK E β nt∧(∀h,nt.free h=true)∧BP nt:=fun nt h=>⟨by unfold APY at h;rw [h],hq nt h,by unfold APY at h;subst h;exact⟨fun _=>rfl,fun b hb=>by rw [Nat.eq_of_beq_eq_true hb];simp,fun b o hb=>by
  dsimp only at hb⊢
  split at hb
  ·rename_i e;subst e;cases hb;exact⟨Nat.beq_refl _,hS.nc⟩
  ·cases hb⟩⟩
 have g:G w σ β ⟨fn.ntmps,fun b=>if b=Y.L then some Y.rc else none,fun _=>true,[],fun b=>Nat.beq b Y.L⟩ ⟨zipT 0 args,own⟩ {tmps:=vs.toArray++Array.replicate (fn.ntmps-vs.toArray.size) undef,defers:=[]} w:=by
  refine⟨σ,β,⟨start_rt hr _,by simp;omega,rfl,hH,Fr.refl w σ β,⟨fun b o h=>?_,fun i x b hx _ hb=>?_⟩⟩⟩
  ·dsimp only at h;split at h
   ·rename_i e;subst e;cases h;exact hS.at_
   ·cases h
  ·dsimp only;rw [if_neg];rintro rfl;exact hS.fr i x hx hb
 refine wpIn_wide.1 (wpIn_mono (vcW_ok hE hmx (ro:=none) hAP (stepY_ok hE hS hq) noRg_ok 0 c _ _ _ _ w (okDst_ok hok.1) h rfl g) ?_)
 intro e a w' hq2
 cases e with
 |normal=>
  obtain⟨S,nt,hk,hap,hg⟩:=hq2
  obtain⟨v,h1,h2⟩:=fin_ok hE hnp (hq nt hap).nm hk hg
  obtain⟨_,_,hg⟩:=hg
  exact⟨by have:=hg.df;unfold APY at hap;subst hap;exact this,v,h1,h2⟩
 |ret=>
  obtain⟨S,nt,hk,hap,hg⟩:=hq2
  obtain⟨v,h1,h2⟩:=fin_ok hE hnp (hq nt hap).nm hk hg
  obtain⟨_,_,hg⟩:=hg
  exact⟨by have:=hg.df;unfold APY at hap;subst hap;exact this,v,h1,h2⟩
 |exit i=>obtain⟨S,nt,hk,_⟩:=hq2;exact hk.elim
 |goto l=>exact hq2.elim
 |panic ch=>exact hq2.elim
 |outgrown=>exact hq2.elim
theorem marks_ok {E:Env} {N:Nat} {fn:Func} {w0:World} {σ0:PH} {β0:List HB} {S:SS} {R:Ending→World→Prop} {tmps:Array Value}:∀(ds:List Deferred) (nt:Par) (a:Act) (w:World),a.tmps=tmps→nt.n=N→nt.free=(fun _=>true)→(∀d∈ds,Mark w0 nt d)→nt.ds=a.defers→(ds.Nodup)→G w0 σ0 β0 nt S a w→
  (∀(nt':Par) (a:Act) (w':World),nt'.free=(fun _=>true)→G w0 σ0 β0 nt' S a w'→a.tmps=tmps→∃v,(results fn tmps).run E.P w'= .ok v w'∧R (.returned v) w')→
  LeavesInM (FW none) 0 E.P fn tmps R ds .returning w
 |[],nt,a,w,ht,hn,hf,_,_,_,hg,hfin=>hfin nt a w hf hg ht
 |d::ds,nt,a,w,ht,hn,hf,hm,hds,hnd,⟨σ,β,hg⟩,hfin=>by
  obtain⟨D,rfl,hD0,hDp⟩:=hm d (by simp)
  have hDw:=hg.pn.at_ D _ hDp
  rw [List.nodup_cons]at hnd
  have hDb:¬inB β D:=by
   rintro⟨i,z,hz,hb⟩
   have:=hg.pn.fr i z D hz (.inl (by rw [hf])) hb
   rw [hDp]at this;cases this
  refine⟨by simp, .inl ⟨D,_,rfl,run_takeDeferred hDw,?_⟩⟩
  refine marks_ok ds ⟨nt.n,fun b=>if b=D then none else nt.pin b,nt.free,nt.ds,nt.hd⟩ a _ ht hn hf (fun d hd=>?_) hds hnd.2 ⟨σ,β,⟨hg.tm,hg.sz,hg.df,hg.hp.putF _ hDb (hg.hp.notDef hDw),hg.fr.putN _ hD0,⟨fun b o hb=>?_,fun i z b hz hfr hb=>?_⟩⟩⟩ hfin
  ·obtain⟨D',e1,e2,e3⟩:=hm d (List.mem_cons_of_mem _ hd)
   refine⟨D',e1,e2,?_⟩
   dsimp only
   rw [if_neg]
   ·exact e3
   ·rintro rfl;rw [e1]at hd;exact hnd.1 hd
  ·dsimp only at hb
   split at hb
   ·cases hb
   ·rename_i hne
    show(put w D _).heap[b]? =_
    rw [put_get_ne hne];exact hg.pn.at_ b o hb
  ·dsimp only
   split
   ·rfl
   ·exact hg.pn.fr i z b hz hfr hb
theorem fn_introR {E:Env} (hE:EnvOK E) (hmx:E.P.follows .mixedOrders =true) {f:Nat} {fn:Func} {c:Code} {args:List SV} {own:List Chunk} {post:SV→List Chunk→Prop} (hn:E.npre=own.length) (hfr:E.free=fun _=>true)
  (hf:E.P.funcs[f]? =some fn) (hname:(fn.name== "runtime.NumGoroutine")=false) (hb:fn.body=some c)
  (hok:(okDst fn.ntmps (writes c) && Nat.ble args.length fn.ntmps)=true)
  (h:zipF 0 args fun tm=>vcW E (stepB E) (rgR E fn.ntmps) c ⟨tm,own⟩ (retK E fn.results.toList post)):Ctr E.P f args own post:=by
 refine⟨⟨fn,hf,hname,by rw [hb];rfl⟩,fun w σ β vs hH hr=>callsIn_wide (n:=0).1 (callsIn_of_wp_marks (F:=FW none) hf hb trivial ?_)⟩
 have hl:=relL_length hr
 have hnp:E.npre=β.length:=by rw [hH.len,hn]
 rw [Bool.and_eq_true]at hok
 have hal:=Nat.le_of_ble_eq_true hok.2
 have h:=zipF_ok h
 have hq:∀nt,APR w fn.ntmps nt→EOK E β nt:=fun nt hnt=>⟨hnp,hfr.trans hnt.fr.symm,fun _ h=>by rw [hnt.fr]⟩
 have hAP:∀nt,APR w fn.ntmps nt→nt.n=fn.ntmps∧EOK E β nt∧(∀h,nt.free h=true)∧BP nt:=fun nt hnt=>⟨hnt.n,hq nt hnt,fun h=>by rw [hnt.fr],hnt.bp⟩
 have g:G w σ β ⟨fn.ntmps,fun _=>none,fun _=>true,[],fun _=>false⟩ ⟨zipT 0 args,own⟩ {tmps:=vs.toArray++Array.replicate (fn.ntmps-vs.toArray.size) undef,defers:=[]} w:=
  ⟨σ,β,⟨start_rt hr _,by simp;omega,rfl,hH,Fr.refl w σ β,⟨fun _ _ h=>(by cases h),fun _ _ _ _ _ _=>rfl⟩⟩⟩
 have hap0:APR w fn.ntmps ⟨fn.ntmps,fun _=>none,fun _=>true,[],fun _=>false⟩:=⟨rfl,rfl,by simp,List.nodup_nil,fun _ h=>(by cases h),fun _ _ h=>(by cases h)⟩
 refine wpIn_mono (vcW_ok hE hmx (ro:=none) hAP (stepB_ok hE hq) (rgR_ok hE hmx hq) 0 c _ _ _ _ w (okDst_ok hok.1) h hap0 g) ?_
 have fin:∀S nt (a:Act) w',retS E fn.results.toList post S→APR w fn.ntmps nt→G w σ β nt S a w'→LeavesInM (FW none) 0 E.P fn a.tmps (EndP w σ β post) a.defers .returning w':=by
  intro S nt a w' hk hap hg
  have hdf:a.defers=nt.ds:=by obtain⟨_,_,hg⟩:=hg;exact hg.df
  refine marks_ok (E:=E) a.defers nt a w' rfl hap.n hap.fr (by rw [hdf];exact hap.dm) hdf.symm (by rw [hdf];exact hap.nd) hg ?_
  intro nt' a' w'' hf' hg' ht
  obtain⟨v,h1,h2⟩:=fin_ok hE hnp (nt:=nt') (fun _ h=>by rw [hf']) hk hg'
  rw [ht]at h1
  exact⟨v,h1,h2⟩
 intro e a w' hq2
 cases e with
 |normal=>obtain⟨S,nt,hk,hap,hg⟩:=hq2;exact fin S nt a w' hk hap hg
 |ret=>obtain⟨S,nt,hk,hap,hg⟩:=hq2;exact fin S nt a w' hk hap hg
 |exit i=>obtain⟨S,nt,hk,_⟩:=hq2;exact hk.elim
 |goto l=>exact hq2.elim
 |panic ch=>exact hq2.elim
 |outgrown=>exact hq2.elim
end Go.Sx
end
