/- Lemmas of this seat. Conditions: as stated. -/
import Derived.Test.YtjhmjiimpmmnhaaGreatJ8
import Derived.Test.YtjhmjiimpmmnhaaGreatO6
import Derived.Test.YtjhmjiimpmmnhaaGreatKn
import Derived.Test.YtjhmjiimpmmnhaaGreatSxC
set_option linter.unusedVariables false
set_option linter.unusedSimpArgs false
set_option maxHeartbeats 2000000
set_option maxRecDepth 8000
namespace Go.Proofs.YtjhmjiimpmmnhaaGreat
open Go.Sx Go.Cv Go.Gd Go.Np Go.Pk Go.St Go.Mc
theorem srt_up {l:List Pk} (h:∀i j,i≤j→j<l.length→(l.getD i pk0).t ≤(l.getD j pk0).t):Srt ptm l:=by
 induction l with
 |nil=>trivial
 |cons x l ih=>
  refine⟨fun y hy=>?_,ih fun i j hij hj=>?_⟩
  ·obtain⟨j,hj,rfl⟩:=List.getElem_of_mem hy
   have:=h 0 (j+1) (by omega) (by simp;omega)
   rw [List.getD_cons_zero,List.getD_cons_succ,List.getD_eq_getElem?_getD,List.getElem?_eq_getElem hj]at this
   exact this
  ·have:=h (i+1) (j+1) (by omega) (by simp;omega)
   rwa [List.getD_cons_succ,List.getD_cons_succ]at this
theorem l1_bld {c z:Int} {v:List Int} {p q:Int} (hc:chkN (l1N c z v p q)=0) {o k:Int} {ts:List Int} (hg:greG v p q z o k=(ts,0)) (hl:ts.length≤60) (hz:1≤z) (hb:∀x∈ts,0≤x∧x≤380) (ho:∀i k,k≤i→i<ts.length→ts.getD k 0≤ts.getD i 0):
  bldG (l1N c z v p q) [o] [k]=(ts.map fun t=>⟨0,t,z⟩,0):=by
 have hS:=l1_sk hc hz hl hb ho
 have e1:(l1N c z v p q).fl.length =1:=rfl
 have e2:bldE (l1N c z v p q) [o] [k] 1=0:=by
  simp only [bldE]
  show(if(0:Int)≠0 then 0 else(greG v p q z o k).2)=0
  rw [hg];rfl
 have e3:bldL (l1N c z v p q) [o] [k] 1=ts.map fun t=>⟨0,t,z⟩:=by
  simp only [bldL,List.nil_append]
  show((greG v p q z o k).1.map fun t=>(⟨((0:Nat):Int),t,z⟩:Pk))=_
  rw [hg];rfl
 unfold bldG
 rw [if_neg (by rw [hc];simp),e1,if_neg (by simp),e2,if_neg (by simp),e3,if_neg (by rw [List.length_map];omega),srt_self (srt_up fun i j hij hj=>hS.mono hij hj)]
theorem l1_pl {c z:Int} {v:List Int} {p q:Int} (hc:chkN (l1N c z v p q)=0) {o k:Int} {P:List Pk} (hB:bldG (l1N c z v p q) [o] [k]=(P,0)) (hS:SkP (l1N c z v p q) P) {w:WrS} (hw:worF (l1N c z v p q) P (dR (trR (toF (l1N c z v p q) P) (liN (l1N c z v p q)) 1000)) 0 P.length=w) (hb:w.b=true):
  plG (l1N c z v p q) 0 [o] [k]=(⟨P,0,w.a,w.d⟩,0):=by
 unfold plG
 rw [hB]
 have hr:=rnG_in hS (show(0:Int)≤1000 by decide) (by decide)
 simp only
 rw [hr]
 simp only
 have e:(1000:Int).toNat =1000:=rfl
 rw [e,hw,if_neg (by show¬((0:Int)<0∨((1:Nat):Int)≤0);omega),if_neg (by simp),if_neg (by simp),if_neg (by rw [hb];simp)]
abbrev anV:List Int:=stv 100 10
abbrev anN:Nt:=l1N 10 100 anV 10 100
theorem an_val:ValidP anV 10 100∧FinP anV:=by
 refine⟨⟨by decide,by decide,by decide,by decide,by decide,by decide,by decide,?_,?_,?_,?_⟩,by unfold FinP;decide⟩
 ·have:∀j,j<11→anV.getD j 0=4611686018427387904∨0≤anV.getD j 0∧anV.getD j 0≤1073741824:=by decide
  exact this
 ·have:∀j,j<10→anV.getD j 0≤anV.getD (j+1) 0:=by decide
  intro j hj
  exact this j (by have:anV.length=11:=rfl;omega)
 ·decide
 ·decide
theorem an_chk:chkN anN=0:=l1_chk (by decide) (by decide) an_val.1 an_val.2 rfl
theorem an_nl:NL anN:=by
 refine⟨by decide,by decide,by decide,fun s hs=>?_,fun l hl=>?_,fun f hf=>?_⟩
 ·simp only [l1N,List.mem_cons,List.not_mem_nil,or_false]at hs
  subst hs;decide
 ·simp only [l1N,List.mem_cons,List.not_mem_nil,or_false]at hl
  subst hl;decide
 ·simp only [l1N,List.mem_cons,List.not_mem_nil,or_false]at hf
  subst hf;decide
theorem an_gre (o:Int) (h:o=0∨o=1∨o=2∨o=4):greG anV 10 100 100 o 2=([o,o+10],0):=by
 unfold greG
 rw [if_neg (fun c=>c an_val.1)]
 rcases h with rfl|rfl|rfl|rfl
 all_goals
  rw [if_neg (by decide)]
  congr 1
theorem an_gre2:greG anV 10 100 100 5 3=([5,15,25],0):=by
 unfold greG
 rw [if_neg (fun c=>c an_val.1),if_neg (by decide)]
 congr 1
abbrev anP (o:Int):List Pk:=[⟨0,o,100⟩,⟨0,o+10,100⟩]
theorem an_sk (o:Int) (h:o=0∨o=1∨o=2∨o=4):SkP anN (anP o):=
 l1_sk (ts:=[o,o+10]) an_chk (by decide) (by simp) (by rcases h with rfl|rfl|rfl|rfl<;>decide) (by rcases h with rfl|rfl|rfl|rfl<;>(intro i k hk hi;have:[0,0+10].length =2:=rfl;rcases(show(i=0∧k=0)∨(i=1∧k=0)∨(i=1∧k=1)by simp only [List.length_cons,List.length_nil]at hi;omega)with⟨rfl,rfl⟩|⟨rfl,rfl⟩|⟨rfl,rfl⟩<;>decide))
theorem an_run (o:Int) (h:o=0∨o=1∨o=2∨o=4):(run fifoC (anP o) 10 1000).dn 0=o+9∧(run fifoC (anP o) 10 1000).dn 1=o+19:=by
 have hA:Asc (anP o):=fun i j hij hj=>(an_sk o h).mono hij hj
 have h0:=run_le hA (C:=fifoC) (c:=10) (t:=24) 976 0
 have h1:=run_le hA (C:=fifoC) (c:=10) (t:=24) 976 1
 have e:(run fifoC (anP o) 10 24).dn 0=o+9∧(run fifoC (anP o) 10 24).dn 1=o+19:=by
  rcases h with rfl|rfl|rfl|rfl<;>decide+kernel
 have e2:24+976=1000:=rfl
 rw [e2]at h0 h1
 rw [e.1]at h0;rw [e.2]at h1
 omega
theorem an_trip (o:Int) (h:o=0∨o=1∨o=2∨o=4):trR (toF anN (anP o)) (liN anN) 1000=[[o+9],[o+19]]:=by
 have e:trR (toF anN (anP o)) (liN anN) 1000=[[tr (toF anN (anP o)) (liN anN) 1000 0 0],[tr (toF anN (anP o)) (liN anN) 1000 1 0]]:=rfl
 rw [e,l1_tr (an_sk o h) 1000 (show 0<2 by decide),l1_tr (an_sk o h) 1000 (show 1<2 by decide)]
 have:=an_run o h
 show [[(run fifoC (anP o) 10 1000).dn 0],[(run fifoC (anP o) 10 1000).dn 1]]=_
 rw [this.1,this.2]
theorem an_wor (o:Int) (h:o=0∨o=1∨o=2∨o=4):worF anN (anP o) (dR (trR (toF anN (anP o)) (liN anN) 1000)) 0 2=⟨0,9,true⟩:=by
 rw [an_trip o h]
 rcases h with rfl|rfl|rfl|rfl<;>rfl
theorem an_pl (o:Int) (h:o=0∨o=1∨o=2∨o=4):plG anN 0 [o] [2]=(⟨anP o,0,0,9⟩,0):=
 l1_pl an_chk (l1_bld an_chk (an_gre o h) (by simp) (by decide) (by rcases h with rfl|rfl|rfl|rfl<;>decide) (fun i k hk hi=>by
  have h1:=(an_sk o h).mono (i:=k) (j:=i) hk (by simpa using hi)
  have hg:∀i,i<2→((anP o).getD i pk0).t =[o,o+10].getD i 0:=fun i hi=>by rcases(show i=0∨i=1 by omega)with rfl|rfl<;>rfl
  simp only [List.length_cons,List.length_nil]at hi
  rw [hg i (by omega),hg k (by omega)]at h1
  exact h1)) (an_sk o h) (an_wor o h) rfl
theorem an_srO:srO anN 0 [2] 4 1=[0]:=by
 have e:cnds 4=[0,1,2,4]:=rfl
 have hg:∀o,o=0∨o=1∨o=2∨o=4→plD anN 0 ((srO anN 0 [2] 4 0).set 0 o) [2]=9:=fun o h=>by
  show(if(plG anN 0 [o] [2]).2 =0 then(plG anN 0 [o] [2]).1.d else-1)=9
  rw [an_pl o h];rfl
 simp only [srO]
 have e0:(List.replicate anN.fl.length (0:Int))=[0]:=rfl
 rw [e]
 simp only [bsF]
 have hg':∀o,o=0∨o=1∨o=2∨o=4→plD anN 0 ((List.replicate anN.fl.length (0:Int)).set 0 o) [2]=9:=hg
 rw [hg' 0 (by omega),hg' 1 (by omega),hg' 2 (by omega),hg' 4 (by omega)]
 rfl
theorem an_ck:CkP anN ⟨anP 0,0,0,9⟩:=by
 have hs:=an_sk 0 (.inl rfl)
 refine⟨⟨hs,fun i hi=>?_⟩,by decide,by decide,rfl,?_⟩
 ·obtain rfl:i=0:=by have:anN.fl.length=1:=rfl;omega
  have he:endN (anP 0)=11:=rfl
  rw [he]
  have:∀t,t<12→∀s,s<t→csm (anP 0) (0:Nat) t-csm (anP 0) (0:Nat) s≤cv (ctc (anN.fl.getD 0 fl0)) (t-s):=by decide+kernel
  intro s t hst ht
  exact this t (by omega) s hst
 ·rw [rnG_in hs (by decide) (by decide)]
  show enO anN (anP 0) (dR (trR (toF anN (anP 0)) (liN anN) 1000)) 0=some 9
  rw [an_trip 0 (.inl rfl)]
  rfl
abbrev anw0:List SV:=[i64 1,i64 10,i64 1, .nil, .nil]
abbrev anw1:List SV:=[.str ⟨#[102]⟩, .ful 1 [[i64 0]],i64 0,i64 1,i64 100, .psl 1 (ints anV),i64 10,i64 100]
theorem one37_ok:Ctr Tryz.prog 33 [] [] (fun r o=>o=[]∧r=ntv anN):=by
 refine Ctr.imp ?_
 refine fI 0 Tryz.func33 ?_
 have cS:=Stair_ok 100 10 100 (by decide)
 (repeat' (conv=>whnf);first|refine LitOb.ful ?_|refine aC ?_ ?_<;>intro<;>try omega|refine z2_T11 ?_|(refine aK [] cS ?_)|fail);all_goals try (conv=>whnf)
 have h0:ImpL anw0 (lnv (l1L 10)):=⟨Imp.refl _,Imp.refl _,Imp.refl _,Imp.nil _,Imp.nil _,trivial⟩
 have h1:ImpL anw1 (flv (l1F 100 anV 10 100)):=⟨Imp.refl _,Imp.fulp rfl,Imp.refl _,Imp.refl _,Imp.refl _,Imp.refl _,Imp.refl _,Imp.refl _,trivial⟩
 exact⟨rfl,Imp.agg ⟨Imp.fulp rfl,Imp.fulr ⟨h0,trivial⟩,Imp.fulr ⟨h1,trivial⟩,trivial⟩⟩
theorem z2_J11 {G H:Prop} (k:H) (h:H→G:=by first|exact fun r=>aS r|exact fun r=>aG r|exact fun r=>aD r|exact fun r=>aH r|exact fun r=>aP_T11 r|exact fun r=>aI r|exact fun r=>aJ r|exact fun r=>aW (.qs [0,1,2,3] (.l 4 [] (.l 5 [] (.qs [6,7,8,9,10,11,12,13,14,15,16,17,18,19,20,21,23] (.l 22 [23] (.l 24 [] (.qs [25,26,27,28,29,30,31] (.l 32 [] (.l 33 [] (.qs [34,35] .nil) .no) .no)) .no) .no)) .no) .no)) r):G:=h k
theorem sane37_ok:Ctr Tryz.prog 7 [] [] (fun r o=>o=[]∧r= .bl true):=by
 refine Ctr.imp ?_
 refine fI 0 Tryz.func7 ?_
 have cG:=Greedy_ok anV 10 100 100 5 3
 rw [an_gre2]at cG
 have cP:=Play_ok anN an_nl 0 [0] [2] (by simp) (by simp)
 rw [an_pl 0 (.inl rfl)]at cP
 have cS:=Search0_ok anN an_nl 0 [2] (by simp) 4 an_chk (by decide) rfl (by decide) (by decide)
 rw [show anN.fl.length=1 from rfl,an_srO,an_pl 0 (.inl rfl),if_neg (by simp)]at cS
 have cC:=Check37_ok anN an_nl ⟨anP 0,0,0,9⟩ (by decide)
 have cI:=kInts_ok [5,15,25] [5,15,25] (by decide)
 have cJ:=kInts_ok [0] [0] (by decide)
 have i0:Imp (.ful 1 [[i64 0]]) (.psl 1 (ints [0])):=Imp.fulp rfl
 have i2:Imp (.ful 1 [[i64 2]]) (.psl 1 (ints [2])):=Imp.fulp rfl
 have i3:Imp (.ful 1 [[i64 5],[i64 15],[i64 25]]) (.psl 1 (ints [5,15,25])):=Imp.fulp rfl
 have gF:(fls anN.fl)[0]? =some (flv (l1F 100 anV 10 100)):=rfl
 (repeat' (conv=>whnf);first|refine⟨0,_,rfl,gF,?_⟩|refine LitOb.ful ?_|refine aC ?_ ?_<;>intro<;>try omega|refine z2_J11 ?_|(refine aK [] (one37_ok) ?_)|(refine aK [] cC ?_)|(refine CallOb.mk [] cI rfl ⟨Imp.refl _,i3,trivial⟩ rfl rfl ?_;rintro _ _ ⟨rfl,rfl⟩)|(refine CallOb.mk [] cJ rfl ⟨Imp.refl _,i0,trivial⟩ rfl rfl ?_;rintro _ _ ⟨rfl,rfl⟩)|(refine aK [] cG ?_)|(refine CallOb.mk [] cP rfl ⟨Imp.refl _,Imp.refl _,i0,i2,trivial⟩ rfl rfl ?_;rintro _ _ ⟨rfl,rfl⟩)|(refine CallOb.mk [] cS rfl ⟨Imp.refl _,Imp.refl _,i2,Imp.refl _,trivial⟩ rfl rfl ?_;rintro _ _ ⟨rfl,rfl⟩)|refine And.intro ?_ ?_|fail);all_goals try (conv=>whnf)
 all_goals first
  |exact absurd rfl (by assumption)
  |exact absurd an_ck (by assumption)
  |exact fun σ β v h=>by
    obtain⟨b,rfl,hb⟩:=h
    have:=hb.2 rfl
    subst this;rfl
end Go.Proofs.YtjhmjiimpmmnhaaGreat
