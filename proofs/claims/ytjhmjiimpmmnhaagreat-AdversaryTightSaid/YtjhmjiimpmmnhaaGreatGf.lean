/- Lemmas of this seat. Conditions: as stated. -/
import Derived.Test.YtjhmjiimpmmnhaaGreatSo7
import Derived.Test.YtjhmjiimpmmnhaaGreatMn
import Derived.Test.YtjhmjiimpmmnhaaGreatMtt
import Derived.Test.YtjhmjiimpmmnhaaGreatR1
import Derived.Test.YtjhmjiimpmmnhaaGreatJ8
import Derived.Test.YtjhmjiimpmmnhaaGreatC1
import Derived.Test.YtjhmjiimpmmnhaaGreatS1
import Derived.Test.YtjhmjiimpmmnhaaGreatSxC
import Derived.Test.YtjhmjiimpmmnhaaGreatPl
import Derived.Test.YtjhmjiimpmmnhaaGreatR6
set_option linter.unusedVariables false
set_option linter.unusedSimpArgs false
set_option maxHeartbeats 2000000
set_option maxRecDepth 8000
section
namespace Go.Mc
open Go.Pk
def qu1 (F:Tf):List Wt:=(List.range F.np).map fun i=>⟨F.t i,F.fl i,i⟩
structure One (F:Tf):Prop where
 rt:∀i,i<F.np→F.rt i=[0]
 t:∀i j,i<j→j<F.np→F.t i≤F.t j
 f:∀i,i<F.np→F.fl i=0
theorem One.rts {F:Tf} (h:One F):Rts F:=fun i hi=>by rw [h.rt i hi];simp
theorem One.qu {F:Tf} (h:One F) (D:Tp):qu F D 0=qu1 F:=by
 refine(qu_ok F D 0).uniq ⟨?_,fun x=>?_⟩
 ·refine List.pairwise_iff_getElem.2 fun i j hi hj hij=>?_
  simp only [qu1,List.length_map,List.length_range]at hi hj
  simp only [qu1,List.getElem_map,List.getElem_range]
  have:=h.t i j hij hj
  have:=h.f i hi
  have:=h.f j hj
  unfold Wt.lt
  simp only
  omega
 ·unfold qu1 Arr
  simp only [List.mem_map,List.mem_range]
  constructor
  ·rintro⟨i,hi,rfl⟩
   refine⟨hi,⟨0,?_,?_⟩,rfl⟩
   ·unfold hp;rw [h.rt i hi];simp
   ·unfold arr;rw [if_pos rfl]
  ·rintro⟨hi,⟨k,hk,ha⟩,hf⟩
   refine⟨x.i,hi,?_⟩
   have hk0:k=0:=by
    unfold hp at hk;rw [h.rt _ hi]at hk;simp at hk;omega
   subst hk0
   unfold arr at ha
   rw [if_pos rfl]at ha
   exact Wt.ext' (Option.some.inj ha) hf.symm rfl
theorem One.tr {F:Tf} (h:One F) (Z:Li) (N:Nat) {i:Nat} (hi:i<F.np):tr F Z N i 0=(run (Z.C 0) (pkq F (qu1 F)) (Z.c 0) N).dn i:=by
 have hc:=tr_con h.rts Z N i 0 hi (by rw [h.rt i hi];simp)
 have hl:lin F i 0=0:=by unfold lin;rw [h.rt i hi];rfl
 rw [hc,hl]
 have hil:i<(qu1 F).length :=by simpa [qu1]using hi
 have hp:=(qu_ok F (Mc.tr F Z N) 0).plc (k:=i) (by rw [h.qu];exact hil)
 have hx:(Mc.qu F (Mc.tr F Z N) 0)[i]'(by rw [h.qu];exact hil)=⟨F.t i,F.fl i,i⟩:=by
  simp only [h.qu];simp [qu1]
 rw [hx]at hp
 unfold pas
 simp only at hp
 rw [hp,h.qu]
structure Bst (m z c i u:Nat) (S:St fifoC.σ):Prop where
 cur:S.cur=if u=0 then none else some (i,z-u)
 bg:∀j,S.bg j=decide (j<i∨(j=i∧0<u))
 dn:∀j,j<m→S.dn j=if j<i then((((j+1)*z-1)/c:Nat):Int)else-1
theorem tk_b {p:List Pk} {z c m t:Nat} (hz:1≤z) (hc:1≤c) (hm:p.length=m) (hs:∀i,i<m→sz p i=z) (ht:∀i,i<m→tm p i≤0):
  ∀(left:Nat) {S:St fifoC.σ} {i u:Nat},Bst m z c i u S→u<z→i≤m→(i=m→u=0)→(t*c≤i*z+u∨i=m)→i*z+u+left≤t*c+c→
   ∃i' u',Bst m z c i' u' (tk fifoC p t left S)∧u'<z∧i'≤m∧(i'=m→u'=0)∧(i'*z+u'=i*z+u+left∨(i'=m∧i'*z≤i*z+u+left)):=by
 intro left
 induction left using Nat.strongRecOn with
 |ind left ih=>
 intro S i u B hu him hiu htl htr
 by_cases h0:left=0
 ·subst h0
  refine⟨i,u,?_,hu,him,hiu, .inl rfl⟩
  rw [tk];exact B
 have hcur:=B.cur
 by_cases hi:i=m
 ·
  have hu0:=hiu hi
  subst hu0
  rw [if_pos rfl]at hcur
  have hk:(fifoC.ch p t left (wt p t S.bg) S.s).2 =none:=by
   show fst (wt p t S.bg) p.length=none
   rw [fst_none]
   intro j hj
   cases hw:wt p t S.bg j with
   |false=>rfl
   |true=>
    have:=(wt_iff.1 hw).2.2
    rw [B.bg]at this
    simp only [decide_eq_false_iff_not]at this
    omega
  rw [tk_non hcur hk (by omega)]
  refine⟨i,0,⟨by rw [if_pos rfl],B.bg,B.dn⟩,hu,him,fun _=>rfl, .inr ⟨hi,by omega⟩⟩
 have him2:i<m:=by omega
 have go:∀{S':St fifoC.σ} {v:Nat},S'.cur=some (i,z-v)→v<z→(∀j,S'.bg j=decide (j<i+1))→(∀j,j<m→S'.dn j=if j<i then((((j+1)*z-1)/c:Nat):Int)else-1)→v=u→
   ∃i' u',Bst m z c i' u' (tk fifoC p t left S')∧u'<z∧i'≤m∧(i'=m→u'=0)∧(i'*z+u'=i*z+u+left∨(i'=m∧i'*z≤i*z+u+left)):=by
  intro S' v hcu hv hbg hdn huv
  subst huv
  have htl:t*c≤i*z+v:=by omega
  have hsm:(i+1)*z=i*z+z:=Nat.succ_mul i z
  have hst:(t+1)*c=t*c+c:=Nat.succ_mul t c
  by_cases hle:z-v≤left
  ·rw [tk_some hcu (by omega) hle]
   have hB:Bst m z c (i+1) 0 (S'.fi i t):=by
    refine⟨by rw [if_pos rfl],fun j=>?_,fun j hj=>?_⟩
    ·show S'.bg j=_
     rw [hbg];congr 1;exact propext (by omega)
    ·show upd S'.dn i t j=_
     by_cases e:j=i
     ·subst e
      rw [upd_same,if_pos (by omega)]
      have:((j+1)*z-1)/c=t:=by
       have h1:t*c≤(j+1)*z-1:=by omega
       have h2:(j+1)*z-1<(t+1)*c:=by omega
       exact Nat.div_eq_of_lt_le h1 h2
      rw [this]
     ·rw [upd_ne e,hdn j hj]
      by_cases h:j<i
      ·rw [if_pos h,if_pos (by omega)]
      ·rw [if_neg h,if_neg (by omega)]
   obtain⟨i',u',h1,h2,h3,h4,h5⟩:=ih (left-(z-v)) (by omega) hB (by omega) (by omega) (fun _=>rfl) (.inl (by omega)) (by omega)
   exact⟨i',u',h1,h2,h3,h4,by omega⟩
  ·rw [tk_more hcu (by omega) (by omega)]
   refine⟨i,v+left,?_,by omega,him,fun e=>by omega, .inl (by omega)⟩
   rw [tk]
   refine⟨?_,fun j=>?_,fun j hj=>hdn j hj⟩
   ·show some (i,z-v-left)=_
    rw [if_neg (by omega),show z-v-left=z-(v+left)by omega]
   ·show S'.bg j=_
    rw [hbg];congr 1;exact propext (by omega)
 by_cases hu0:u=0
 ·subst hu0
  rw [if_pos rfl]at hcur
  have hk:(fifoC.ch p t left (wt p t S.bg) S.s).2 =some i:=by
   show fst (wt p t S.bg) p.length=some i
   rw [fst_some]
   refine⟨by omega,?_,fun j hj=>?_⟩
   ·rw [wt_iff]
    refine⟨by omega,?_,?_⟩
    ·have:=ht i him2;omega
    ·rw [B.bg];simp
   ·cases hw:wt p t S.bg j with
    |false=>rfl
    |true=>
     have:=(wt_iff.1 hw).2.2
     rw [B.bg]at this
     simp only [decide_eq_false_iff_not]at this
     omega
  rw [tk_new hcur hk (by omega)]
  refine go (v:=0) ?_ (by omega) (fun j=>?_) B.dn rfl
  ·show some (i,sz p i)=_
   rw [hs i him2];rfl
  ·show upd S.bg i true j=_
   by_cases e:j=i
   ·subst e;rw [upd_same];simp
   ·rw [upd_ne e,B.bg];congr 1;exact propext (by omega)
 ·rw [if_neg hu0]at hcur
  exact go hcur hu (fun j=>by rw [B.bg];congr 1;exact propext (by omega)) B.dn rfl
theorem run_b {p:List Pk} {z c m:Nat} (hz:1≤z) (hc:1≤c) (hm:p.length=m) (hs:∀i,i<m→sz p i=z) (ht:∀i,i<m→tm p i≤0):
  ∀t,∃i u,Bst m z c i u (run fifoC p c t)∧u<z∧i≤m∧(i=m→u=0)∧(i*z+u=t*c∨(i=m∧i*z≤t*c))
 |0=>⟨0,0,⟨by rw [if_pos rfl];rfl,fun j=>by simp [run],fun j _=>by rw [if_neg (by omega)];rfl⟩,by omega,by omega,fun _=>rfl, .inl (by omega)⟩
 |t+1=>by
  obtain⟨i,u,B,h1,h2,h3,h4⟩:=run_b hz hc hm hs ht t
  obtain⟨i',u',B',k1,k2,k3,k4⟩:=tk_b (t:=t) hz hc hm hs ht c B h1 h2 h3 (by omega) (by
   rcases h4 with h|⟨h,h'⟩
   ·omega
   ·have:=h3 h;omega)
  refine⟨i',u',B',k1,k2,k3,?_⟩
  rw [Nat.succ_mul]
  rcases h4 with h|⟨h,h'⟩
  ·rw [h]at k4;exact k4
  ·have hu:=h3 h
   refine .inr ?_
   rcases k4 with k|⟨k,k'⟩
   ·have e:i'*z≤m*z:=Nat.mul_le_mul_right z k2
    refine⟨?_,by omega⟩
    apply Classical.byContradiction
    intro hn
    have:(i'+1)*z≤m*z:=Nat.mul_le_mul_right z (by omega)
    rw [Nat.succ_mul]at this
    rw [←h]at this
    omega
   ·exact⟨k,by omega⟩
theorem run_one {p:List Pk} {z c m N:Nat} (hz:1≤z) (hc:1≤c) (hm:p.length=m) (hs:∀i,i<m→sz p i=z) (ht:∀i,i<m→tm p i≤0) (hN:m*z≤N*c) {i:Nat} (hi:i<m):
  (run fifoC p c N).dn i=((((i+1)*z-1)/c:Nat):Int):=by
 obtain⟨j,u,B,h1,h2,h3,h4⟩:=run_b hz hc hm hs ht N
 have hj:j=m:=by
  rcases h4 with h|⟨h,_⟩
  ·apply Classical.byContradiction
   intro hn
   have:(j+1)*z≤m*z:=Nat.mul_le_mul_right z (by omega)
   rw [Nat.succ_mul]at this
   omega
  ·exact h
 rw [B.dn i hi,if_pos (by omega)]
end Go.Mc
end
section
namespace Go.Mc
open Go.Pk Go.Np Go.Cv
abbrev l1L (c:Int):Ln:=⟨1,c,1,[],[]⟩
abbrev l1F (z:Int) (v:List Int) (p q:Int):Fl:=⟨⟨#[102]⟩,[0],0,1,z,v,p,q⟩
def l1N (c z:Int) (v:List Int) (p q:Int):Nt:=⟨[⟨#[97]⟩],[l1L c],[l1F z v p q]⟩
theorem l1_chk {c z:Int} {v:List Int} {p q:Int} (hc:1≤c∧c≤4000) (hz:1≤z∧z≤1500) (hv:ValidP v p q) (hf:FinP v) (h0:v.getD 0 0=0):chkN (l1N c z v p q)=0:=by
 refine chkN_ok (by simp [l1N]) rfl ?_ ?_
 ·intro j hj
  have h3:j=0:=by have:(l1N c z v p q).ln.length =1:=rfl;omega
  subst h3
  have e:(l1N c z v p q).nm.getD 0 bs0=lname 0∧(l1N c z v p q).ln.getD 0 ln0=l1L c:=⟨rfl,rfl⟩
  have hf:nmErr ((l1N c z v p q).nm.take 0) ((l1N c z v p q).nm.getD 0 bs0)=0:=by
   rw [e.1]
   exact nm_fresh (lname_word 0 (by omega)) (by simp)
  unfold lineE
  rw [hf,if_neg (by simp),e.2]
  unfold lnErr lsErr
  simp only
  repeat' split
  all_goals first
   |rfl
   |(exfalso;omega)
   |(rename_i h;exfalso;revert h;simp;done)
   |trace_state
 ·intro j hj
  have:j=0:=by have:(l1N c z v p q).fl.length =1:=rfl;omega
  subst this
  have hfr:nmErr (((l1N c z v p q).fl.take 0).map (·.nm)) ((l1N c z v p q).fl.getD 0 fl0).nm =0:=nm_fresh (fname_word 0 (by decide)) (by simp)
  have hr:routeE (l1N c z v p q).ln ((l1N c z v p q).fl.getD 0 fl0)=0:=rfl
  unfold flowE
  rw [hfr,if_neg (by simp),hr,if_neg (by simp)]
  have hG:(l1N c z v p q).fl.getD 0 fl0=l1F z v p q:=rfl
  rw [hG]
  unfold trafE
  rw [if_neg (by simp only;omega),if_neg (fun k=>k hv),if_neg (by simp only;omega),if_neg (fun k=>k hf)]
theorem l1_sk {c z:Int} {v:List Int} {p q:Int} (hc:chkN (l1N c z v p q)=0) {ts:List Int} (hz:1≤z) (hl:ts.length≤60) (hb:∀x∈ts,0≤x∧x≤380) (ho:∀i k,k≤i→i<ts.length→ts.getD k 0≤ts.getD i 0):
  SkP (l1N c z v p q) (ts.map fun t=>⟨0,t,z⟩):=by
 have hg:∀i,i<ts.length→(ts.map fun t=>(⟨0,t,z⟩:Pk)).getD i pk0=⟨0,ts.getD i 0,z⟩:=fun i hi=>by
  simp [List.getD_eq_getElem?_getD,hi]
 have hb':∀i,i<ts.length→0≤ts.getD i 0∧ts.getD i 0≤380:=fun i hi=>by
  rw [List.getD_eq_getElem?_getD,List.getElem?_eq_getElem hi];exact hb _ (List.getElem_mem hi)
 refine⟨hc,by rw [List.length_map];exact hl,fun i hi=>?_,fun i hi=>?_⟩
 ·rw [List.length_map]at hi
  rw [hg i hi]
  have:=hb' i hi
  have e1:(pfl (l1N c z v p q) ⟨0,ts.getD i 0,z⟩).lo =1:=rfl
  have e2:(pfl (l1N c z v p q) ⟨0,ts.getD i 0,z⟩).hi =z:=rfl
  have e3:(l1N c z v p q).fl.length =1:=rfl
  unfold bdP
  rw [e1,e2,e3]
  simp only
  omega
 ·rw [List.length_map]at hi
  rw [hg i hi]
  have h1:=hb' i hi
  unfold lst
  cases i with
  |zero=>simp only [↓reduceIte];omega
  |succ i=>
   have h2:=ho (i+1) i (by omega) hi
   simp only [Nat.add_sub_cancel]
   rw [hg i (by omega)]
   exact h2
theorem l1_one {c z:Int} {v:List Int} {p q:Int} {P:List Pk} (h:SkP (l1N c z v p q) P):One (toF (l1N c z v p q) P)∧pkq (toF (l1N c z v p q) P) (qu1 (toF (l1N c z v p q) P))=P:=by
 have h0:∀i,i<P.length→(P.getD i pk0).f =0:=fun i hi=>by
  have:=h.fl hi
  have e3:(l1N c z v p q).fl.length =1:=rfl
  omega
 have hp:∀i,i<P.length→pfl (l1N c z v p q) (P.getD i pk0)=l1F z v p q:=fun i hi=>by
  unfold pfl;rw [h0 i hi];rfl
 refine⟨⟨fun i hi=>?_,fun i j hij hj=>?_,fun i hi=>h0 i hi⟩,?_⟩
 ·show(pfl (l1N c z v p q) (P.getD i pk0)).rt.map Int.toNat=[0]
  rw [hp i hi];rfl
 ·exact h.mono (by omega) hj
 ·refine List.ext_getElem (by simp [pkq,qu1,toF]) fun i h1 h2=>?_
  have e:P.getD i pk0=P[i]:=by rw [List.getD_eq_getElem?_getD,List.getElem?_eq_getElem h2];rfl
  have e0:=h0 i h2
  have ep:=hp i h2
  rw [e]at e0 ep
  simp only [pkq,qu1,List.getElem_map,List.getElem_range,toF,e,ep]
  rw [←e0]
theorem l1_tr {c z:Int} {v:List Int} {p q:Int} {P:List Pk} (h:SkP (l1N c z v p q) P) {Z:Li} (N:Nat) {i:Nat} (hi:i<P.length):tr (toF (l1N c z v p q) P) Z N i 0=(run (Z.C 0) P (Z.c 0) N).dn i:=by
 obtain⟨h1,h2⟩:=l1_one h
 rw [h1.tr Z N hi,h2]
end Go.Mc
end
namespace Go.Proofs.YtjhmjiimpmmnhaaGreat
section
open Go.Sx Go.Cv Go.Gd Go.Np Go.Pk Go.St Go.Mc
theorem srt_up {l:List Pk} (h:∀i j,i≤j→j<l.length→(l.getD i pk0).t ≤(l.getD j pk0).t):Srt ptm l:=by
 induction l with
 |nil=>trivial
 |cons x l ih=>
  refine⟨fun y hy=>?_,ih fun i j hij hj=>?_⟩
  ·obtain⟨j,hj,rfl⟩:=List.getElem_of_mem hy
   have:=h 0 (j+1) (by omega) (by simp;omega)
   rw [List.getD_cons_zero,List.getD_cons_succ,List.getD_eq_getElem?_getD,List.getElem?_eq_getElem hj]at this
   exact this
  ·have:=h (i+1) (j+1) (by omega) (by simp;omega)
   rwa [List.getD_cons_succ,List.getD_cons_succ]at this
theorem l1_bld {c z:Int} {v:List Int} {p q:Int} (hc:chkN (l1N c z v p q)=0) {o k:Int} {ts:List Int} (hg:greG v p q z o k=(ts,0)) (hl:ts.length≤60) (hz:1≤z) (hb:∀x∈ts,0≤x∧x≤380) (ho:∀i k,k≤i→i<ts.length→ts.getD k 0≤ts.getD i 0):
  bldG (l1N c z v p q) [o] [k]=(ts.map fun t=>⟨0,t,z⟩,0):=by
 have hS:=l1_sk hc hz hl hb ho
 have e1:(l1N c z v p q).fl.length =1:=rfl
 have e2:bldE (l1N c z v p q) [o] [k] 1=0:=by
  simp only [bldE]
  show(if(0:Int)≠0 then 0 else(greG v p q z o k).2)=0
  rw [hg];rfl
 have e3:bldL (l1N c z v p q) [o] [k] 1=ts.map fun t=>⟨0,t,z⟩:=by
  simp only [bldL,List.nil_append]
  show((greG v p q z o k).1.map fun t=>(⟨((0:Nat):Int),t,z⟩:Pk))=_
  rw [hg];rfl
 unfold bldG
 rw [if_neg (by rw [hc];simp),e1,if_neg (by simp),e2,if_neg (by simp),e3,if_neg (by rw [List.length_map];omega),srt_self (srt_up fun i j hij hj=>hS.mono hij hj)]
theorem l1_pl {c z:Int} {v:List Int} {p q:Int} (hc:chkN (l1N c z v p q)=0) {o k:Int} {P:List Pk} (hB:bldG (l1N c z v p q) [o] [k]=(P,0)) (hS:SkP (l1N c z v p q) P) {w:WrS} (hw:worF (l1N c z v p q) P (dR (trR (toF (l1N c z v p q) P) (liN (l1N c z v p q)) 1000)) 0 P.length=w) (hb:w.b=true):
  plG (l1N c z v p q) 0 [o] [k]=(⟨P,0,w.a,w.d⟩,0):=by
 unfold plG
 rw [hB]
 have hr:=rnG_in hS (show(0:Int)≤1000 by decide) (by decide)
 simp only
 rw [hr]
 simp only
 have e:(1000:Int).toNat =1000:=rfl
 rw [e,hw,if_neg (by show¬((0:Int)<0∨((1:Nat):Int)≤0);omega),if_neg (by simp),if_neg (by simp),if_neg (by rw [hb];simp)]
abbrev anV:List Int:=stv 100 10
abbrev anN:Nt:=l1N 10 100 anV 10 100
theorem an_val:ValidP anV 10 100∧FinP anV:=by
 refine⟨⟨by decide,by decide,by decide,by decide,by decide,by decide,by decide,?_,?_,?_,?_⟩,by unfold FinP;decide⟩
 ·have:∀j,j<11→anV.getD j 0=4611686018427387904∨0≤anV.getD j 0∧anV.getD j 0≤1073741824:=by decide
  exact this
 ·have:∀j,j<10→anV.getD j 0≤anV.getD (j+1) 0:=by decide
  intro j hj
  exact this j (by have:anV.length=11:=rfl;omega)
 ·decide
 ·decide
theorem an_chk:chkN anN=0:=l1_chk (by decide) (by decide) an_val.1 an_val.2 rfl
theorem an_nl:NL anN:=by
 refine⟨by decide,by decide,by decide,fun s hs=>?_,fun l hl=>?_,fun f hf=>?_⟩
 ·simp only [l1N,List.mem_cons,List.not_mem_nil,or_false]at hs
  subst hs;decide
 ·simp only [l1N,List.mem_cons,List.not_mem_nil,or_false]at hl
  subst hl;decide
 ·simp only [l1N,List.mem_cons,List.not_mem_nil,or_false]at hf
  subst hf;decide
theorem an_gre (o:Int) (h:o=0∨o=1∨o=2∨o=4):greG anV 10 100 100 o 2=([o,o+10],0):=by
 unfold greG
 rw [if_neg (fun c=>c an_val.1)]
 rcases h with rfl|rfl|rfl|rfl
 all_goals
  rw [if_neg (by decide)]
  congr 1
theorem an_gre2:greG anV 10 100 100 5 3=([5,15,25],0):=by
 unfold greG
 rw [if_neg (fun c=>c an_val.1),if_neg (by decide)]
 congr 1
abbrev anP (o:Int):List Pk:=[⟨0,o,100⟩,⟨0,o+10,100⟩]
theorem an_sk (o:Int) (h:o=0∨o=1∨o=2∨o=4):SkP anN (anP o):=
 l1_sk (ts:=[o,o+10]) an_chk (by decide) (by simp) (by rcases h with rfl|rfl|rfl|rfl<;>decide) (by rcases h with rfl|rfl|rfl|rfl<;>(intro i k hk hi;have:[0,0+10].length =2:=rfl;rcases(show(i=0∧k=0)∨(i=1∧k=0)∨(i=1∧k=1)by simp only [List.length_cons,List.length_nil]at hi;omega)with⟨rfl,rfl⟩|⟨rfl,rfl⟩|⟨rfl,rfl⟩<;>decide))
theorem an_run (o:Int) (h:o=0∨o=1∨o=2∨o=4):(run fifoC (anP o) 10 1000).dn 0=o+9∧(run fifoC (anP o) 10 1000).dn 1=o+19:=by
 have hA:Asc (anP o):=fun i j hij hj=>(an_sk o h).mono hij hj
 have h0:=run_le hA (C:=fifoC) (c:=10) (t:=24) 976 0
 have h1:=run_le hA (C:=fifoC) (c:=10) (t:=24) 976 1
 have e:(run fifoC (anP o) 10 24).dn 0=o+9∧(run fifoC (anP o) 10 24).dn 1=o+19:=by
  rcases h with rfl|rfl|rfl|rfl<;>decide+kernel
 have e2:24+976=1000:=rfl
 rw [e2]at h0 h1
 rw [e.1]at h0;rw [e.2]at h1
 omega
theorem an_trip (o:Int) (h:o=0∨o=1∨o=2∨o=4):trR (toF anN (anP o)) (liN anN) 1000=[[o+9],[o+19]]:=by
 have e:trR (toF anN (anP o)) (liN anN) 1000=[[tr (toF anN (anP o)) (liN anN) 1000 0 0],[tr (toF anN (anP o)) (liN anN) 1000 1 0]]:=rfl
 rw [e,l1_tr (an_sk o h) 1000 (show 0<2 by decide),l1_tr (an_sk o h) 1000 (show 1<2 by decide)]
 have:=an_run o h
 show [[(run fifoC (anP o) 10 1000).dn 0],[(run fifoC (anP o) 10 1000).dn 1]]=_
 rw [this.1,this.2]
theorem an_wor (o:Int) (h:o=0∨o=1∨o=2∨o=4):worF anN (anP o) (dR (trR (toF anN (anP o)) (liN anN) 1000)) 0 2=⟨0,9,true⟩:=by
 rw [an_trip o h]
 rcases h with rfl|rfl|rfl|rfl<;>rfl
theorem an_pl (o:Int) (h:o=0∨o=1∨o=2∨o=4):plG anN 0 [o] [2]=(⟨anP o,0,0,9⟩,0):=
 l1_pl an_chk (l1_bld an_chk (an_gre o h) (by simp) (by decide) (by rcases h with rfl|rfl|rfl|rfl<;>decide) (fun i k hk hi=>by
  have h1:=(an_sk o h).mono (i:=k) (j:=i) hk (by simpa using hi)
  have hg:∀i,i<2→((anP o).getD i pk0).t =[o,o+10].getD i 0:=fun i hi=>by rcases(show i=0∨i=1 by omega)with rfl|rfl<;>rfl
  simp only [List.length_cons,List.length_nil]at hi
  rw [hg i (by omega),hg k (by omega)]at h1
  exact h1)) (an_sk o h) (an_wor o h) rfl
theorem an_srO:srO anN 0 [2] 4 1=[0]:=by
 have e:cnds 4=[0,1,2,4]:=rfl
 have hg:∀o,o=0∨o=1∨o=2∨o=4→plD anN 0 ((srO anN 0 [2] 4 0).set 0 o) [2]=9:=fun o h=>by
  show(if(plG anN 0 [o] [2]).2 =0 then(plG anN 0 [o] [2]).1.d else-1)=9
  rw [an_pl o h];rfl
 simp only [srO]
 have e0:(List.replicate anN.fl.length (0:Int))=[0]:=rfl
 rw [e]
 simp only [bsF]
 have hg':∀o,o=0∨o=1∨o=2∨o=4→plD anN 0 ((List.replicate anN.fl.length (0:Int)).set 0 o) [2]=9:=hg
 rw [hg' 0 (by omega),hg' 1 (by omega),hg' 2 (by omega),hg' 4 (by omega)]
 rfl
theorem an_ck:CkP anN ⟨anP 0,0,0,9⟩:=by
 have hs:=an_sk 0 (.inl rfl)
 refine⟨⟨hs,fun i hi=>?_⟩,by decide,by decide,rfl,?_⟩
 ·obtain rfl:i=0:=by have:anN.fl.length=1:=rfl;omega
  have he:endN (anP 0)=11:=rfl
  rw [he]
  have:∀t,t<12→∀s,s<t→csm (anP 0) (0:Nat) t-csm (anP 0) (0:Nat) s≤cv (ctc (anN.fl.getD 0 fl0)) (t-s):=by decide+kernel
  intro s t hst ht
  exact this t (by omega) s hst
 ·rw [rnG_in hs (by decide) (by decide)]
  show enO anN (anP 0) (dR (trR (toF anN (anP 0)) (liN anN) 1000)) 0=some 9
  rw [an_trip 0 (.inl rfl)]
  rfl
abbrev anw0:List SV:=[i64 1,i64 10,i64 1, .nil, .nil]
abbrev anw1:List SV:=[.str ⟨#[102]⟩, .ful 1 [[i64 0]],i64 0,i64 1,i64 100, .psl 1 (ints anV),i64 10,i64 100]
theorem one37_ok:Ctr Tryz.prog 33 [] [] (fun r o=>o=[]∧r=ntv anN):=by
 refine Ctr.imp ?_
 refine fI 0 Tryz.func33 ?_
 have cS:=Stair_ok 100 10 100 (by decide)
 (repeat' (conv=>whnf);first|refine LitOb.ful ?_|refine aC ?_ ?_<;>intro<;>try omega|refine z2_T11 ?_|(refine aK [] cS ?_)|fail);all_goals try (conv=>whnf)
 have h0:ImpL anw0 (lnv (l1L 10)):=⟨Imp.refl _,Imp.refl _,Imp.refl _,Imp.nil _,Imp.nil _,trivial⟩
 have h1:ImpL anw1 (flv (l1F 100 anV 10 100)):=⟨Imp.refl _,Imp.fulp rfl,Imp.refl _,Imp.refl _,Imp.refl _,Imp.refl _,Imp.refl _,Imp.refl _,trivial⟩
 exact⟨rfl,Imp.agg ⟨Imp.fulp rfl,Imp.fulr ⟨h0,trivial⟩,Imp.fulr ⟨h1,trivial⟩,trivial⟩⟩
theorem z2_J11 {G H:Prop} (k:H) (h:H→G:=by first|exact fun r=>aS r|exact fun r=>aG r|exact fun r=>aD r|exact fun r=>aH r|exact fun r=>aP_T11 r|exact fun r=>aI r|exact fun r=>aJ r|exact fun r=>aW (.qs [0,1,2,3] (.l 4 [] (.l 5 [] (.qs [6,7,8,9,10,11,12,13,14,15,16,17,18,19,20,21,23] (.l 22 [23] (.l 24 [] (.qs [25,26,27,28,29,30,31] (.l 32 [] (.l 33 [] (.qs [34,35] .nil) .no) .no)) .no) .no)) .no) .no)) r):G:=h k
theorem sane37_ok:Ctr Tryz.prog 7 [] [] (fun r o=>o=[]∧r= .bl true):=by
 refine Ctr.imp ?_
 refine fI 0 Tryz.func7 ?_
 have cG:=Greedy_ok anV 10 100 100 5 3
 rw [an_gre2]at cG
 have cP:=Play_ok anN an_nl 0 [0] [2] (by simp) (by simp)
 rw [an_pl 0 (.inl rfl)]at cP
 have cS:=Search0_ok anN an_nl 0 [2] (by simp) 4 an_chk (by decide) rfl (by decide) (by decide)
 rw [show anN.fl.length=1 from rfl,an_srO,an_pl 0 (.inl rfl),if_neg (by simp)]at cS
 have cC:=Check37_ok anN an_nl ⟨anP 0,0,0,9⟩ (by decide)
 have cI:=kInts_ok [5,15,25] [5,15,25] (by decide)
 have cJ:=kInts_ok [0] [0] (by decide)
 have i0:Imp (.ful 1 [[i64 0]]) (.psl 1 (ints [0])):=Imp.fulp rfl
 have i2:Imp (.ful 1 [[i64 2]]) (.psl 1 (ints [2])):=Imp.fulp rfl
 have i3:Imp (.ful 1 [[i64 5],[i64 15],[i64 25]]) (.psl 1 (ints [5,15,25])):=Imp.fulp rfl
 have gF:(fls anN.fl)[0]? =some (flv (l1F 100 anV 10 100)):=rfl
 (repeat' (conv=>whnf);first|refine⟨0,_,rfl,gF,?_⟩|refine LitOb.ful ?_|refine aC ?_ ?_<;>intro<;>try omega|refine z2_J11 ?_|(refine aK [] (one37_ok) ?_)|(refine aK [] cC ?_)|(refine CallOb.mk [] cI rfl ⟨Imp.refl _,i3,trivial⟩ rfl rfl ?_;rintro _ _ ⟨rfl,rfl⟩)|(refine CallOb.mk [] cJ rfl ⟨Imp.refl _,i0,trivial⟩ rfl rfl ?_;rintro _ _ ⟨rfl,rfl⟩)|(refine aK [] cG ?_)|(refine CallOb.mk [] cP rfl ⟨Imp.refl _,Imp.refl _,i0,i2,trivial⟩ rfl rfl ?_;rintro _ _ ⟨rfl,rfl⟩)|(refine CallOb.mk [] cS rfl ⟨Imp.refl _,Imp.refl _,i2,Imp.refl _,trivial⟩ rfl rfl ?_;rintro _ _ ⟨rfl,rfl⟩)|refine And.intro ?_ ?_|fail);all_goals try (conv=>whnf)
 all_goals first
  |exact absurd rfl (by assumption)
  |exact absurd an_ck (by assumption)
  |exact fun σ β v h=>by
    obtain⟨b,rfl,hb⟩:=h
    have:=hb.2 rfl
    subst this;rfl
end
end Go.Proofs.YtjhmjiimpmmnhaaGreat
section
namespace Go.Cv
def burF (B:Int) (t:Nat):Int:=if t=0 then 0 else B
theorem nf_bur {B:Int} (hB:1≤B):NF (burF B) [0,B] 1 0:=by
 refine⟨1,by omega,fun t ht=>?_,fun s p q hp _=>hp,minS_of (.inr ?_),rfl⟩
 ·unfold burF;rw [if_neg (by omega),if_neg (by omega)];omega
 ·show burF B (1-1+1)≠burF B (1-1)+0
  unfold burF;simp;omega
theorem bur_vf {B:Int} (hB:1≤B) (hB2:B≤1073741824):VF [0,B] 1 0:=by
 refine vf_of_dec ⟨by simp,by simp,by omega,by omega,by simp,by omega,by omega,fun j hj=>?_,fun j hj=>?_,fun h=>⟨rfl,rfl⟩,fun _=>?_⟩
 ·simp only [List.length_cons,List.length_nil]at hj
  rcases(show j=0∨j=1 by omega)with rfl|rfl
  ·right;simp
  ·right;simp;omega
 ·simp only [List.length_cons,List.length_nil]at hj
  obtain rfl:j=0:=by omega
  simp;omega
 ·simp
theorem bur_cv {B:Int} (hB:1≤B) (hB2:B≤1073741824) (t:Nat):cv ([0,B],1,0) t=burF B t:=(bur_vf hB hB2).sound (nf_bur hB) t
theorem nf_line {c:Int}:NF (fun t=>c*t) [0] 1 c:=by
 refine⟨0,by omega,fun t ht=>?_,fun s p q hp _=>hp,minS_of (.inl rfl),?_⟩
 ·simp only;push_cast;rw [Int.mul_add,Int.mul_one]
 ·simp [vals]
theorem line_vf {c:Int} (hc:0≤c) (hc2:c≤1073741824):VF [0] 1 c:=by
 refine vf_of_dec ⟨by simp,by simp,by omega,by omega,by simp,by omega,by omega,fun j hj=>?_,fun j hj=>?_,fun h=>?_,fun _=>?_⟩
 ·simp only [List.length_cons,List.length_nil]at hj
  obtain rfl:j=0:=by omega
  right;simp
 ·simp only [List.length_cons,List.length_nil]at hj;omega
 ·simp at h
 ·simp;omega
theorem line_cv {c:Int} (hc:0≤c) (hc2:c≤1073741824) (t:Nat):cv ([0],1,c) t=c*t:=(line_vf hc hc2).sound nf_line t
end Go.Cv
namespace Go.Mc
end Go.Mc
end
namespace Go.Proofs.YtjhmjiimpmmnhaaGreat
section
open Go.Sx Go.Cv
abbrev NmC (f a:C3):Prop:=VC a∧(∀t,cv a t=cv f t)∧(FinC f→FinC a)∧NF (cv f) a.1 a.2.1 a.2.2
end
section
open Go.Sx Go.Cv
def pl2 (f g:C3) (t:Nat):Int:=cv f t+cv g t
end
end Go.Proofs.YtjhmjiimpmmnhaaGreat
