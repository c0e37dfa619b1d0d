/- Lemmas of this seat. Conditions: as stated. -/
import Derived.Test.YtaomhdljcdadaaaGreatQd
import Derived.Test.YtaomhdljcdadaaaGreatMtt
set_option linter.unusedVariables false
set_option linter.unusedSimpArgs false
namespace Go.Mc
open Go.Pk
variable {F:Tf} {Z:Li} {N:Nat} {D:Tp}
def Eu (F:Tf) (D:Tp) (l x:Nat):Prop:=∃h,hp F l x=some h∧D x h<0
structure LeI (F:Tf) (Z:Li) (N:Nat) (D:Tp) (S:Nat→Nat→Prop) (L:Int):Prop where
 lo: -1≤L
 mn:∀l x,S l x→0≤pas F Z N D l x→Eu F D l x→0≤L∧L≤pas F Z N D l x
 at':0≤L→∃l x,x<F.np∧pas F Z N D l x=L∧Eu F D l x
def SQ (q:List Wt) (i k:Nat):Nat→Nat→Prop:=fun l x=>l<i∨(l=i∧inQ (q.take k) x=true)
theorem SQ.next {q:List Wt} {i k:Nat} (hk:k<q.length):∀l' x',SQ q i (k+1) l' x'↔SQ q i k l' x'∨(l'=i∧x'=q[k].i):=fun l' x'=>by
 unfold SQ
 rw [inQ_take hk,Bool.or_eq_true,decide_eq_true_iff]
 constructor
 ·rintro(h|⟨h1,h2|h2⟩)
  ·exact .inl (.inl h)
  ·exact .inl (.inr ⟨h1,h2⟩)
  ·exact .inr ⟨h1,h2.symm⟩
 ·rintro((h|⟨h1,h2⟩)|⟨h1,h2⟩)
  ·exact .inl h
  ·exact .inr ⟨h1, .inl h2⟩
  ·exact .inr ⟨h1, .inr h2.symm⟩
theorem SQ.fresh {l':Nat} {q:List Wt} (hq:Qu F D l' q) {i k:Nat} (hk:k<q.length):¬SQ q i k i q[k].i :=fun h=>by
 rcases h with h|⟨_,h⟩
 ·omega
 ·rw [hq.fresh hk]at h;cases h
theorem SQ.zero (q:List Wt) (i:Nat):∀l x,SQ q i 0 l x↔l<i:=fun l x=>by
 unfold SQ
 rw [List.take_zero]
 exact⟨fun h=>h.elim id fun h=>(by cases h.2), .inl⟩
theorem LeI.put {S S':Nat→Nat→Prop} {L:Int} (h:LeI F Z N D S L) {l x k:Nat} (hx:x<F.np) (hh:hp F l x=some k) (hS':∀l' x',S' l' x'↔S l' x'∨(l'=l∧x'=x)) (h0:0≤pas F Z N D l x) (hd:D x k<0) (hc:L<0∨pas F Z N D l x<L):LeI F Z N D S' (pas F Z N D l x):=
 ⟨by omega,fun l' x' hs h1 h2=>by
  rcases(hS' l' x').1 hs with h3|⟨rfl,rfl⟩
  ·have:=h.mn l' x' h3 h1 h2;omega
  ·omega,fun _=>⟨l,x,hx,rfl,k,hh,hd⟩⟩
theorem LeI.skip {S S':Nat→Nat→Prop} {L:Int} (h:LeI F Z N D S L) {l x k:Nat} (hh:hp F l x=some k) (hS':∀l' x',S' l' x'↔S l' x'∨(l'=l∧x'=x)) (hc:¬(0≤pas F Z N D l x∧D x k<0∧(L<0∨pas F Z N D l x<L))):LeI F Z N D S' L:=
 ⟨h.lo,fun l' x' hs h1 h2=>by
  rcases(hS' l' x').1 hs with h3|⟨rfl,rfl⟩
  ·exact h.mn l' x' h3 h1 h2
  ·obtain⟨k',e1,e2⟩:=h2
   rw [hh]at e1
   obtain rfl:=Option.some.inj e1
   omega,h.at'⟩
theorem LeI.weak {S S':Nat→Nat→Prop} {L:Int} (h:LeI F Z N D S L) (hS':∀l' x',S' l' x'→S l' x'∨pas F Z N D l' x'<0):LeI F Z N D S' L:=
 ⟨h.lo,fun l' x' hs h1 h2=>by
  rcases hS' l' x' hs with h3|h3
  ·exact h.mn l' x' h3 h1 h2
  ·omega,h.at'⟩
theorem SQ.done {q:List Wt} {i:Nat} (hq:Qu F D i q):∀l' x',l'<i+1→SQ q i q.length l' x'∨pas F Z N D l' x'<0:=fun l' x' hl=>by
 by_cases e:l'=i
 ·subst e
  unfold SQ
  rw [List.take_length]
  by_cases c:inQ q x'=true
  ·exact .inl (.inr ⟨rfl,c⟩)
  ·exact .inr (by rw [pas_out hq (by simpa using c)];omega)
 ·exact .inl (.inl (by omega))
structure FrI (F:Tf) (Z:Li) (N:Nat) (D:Tp) (S:Nat→Nat→Prop) (L:Int) (fr:Nat→Bool):Prop where
 f:∀x h,x<F.np→h+1<(F.rt x).length →fr (lin F x (h+1))=true→S (lin F x h) x→pas F Z N D (lin F x h) x=L→¬D x h<0
theorem FrI.zero {L:Int} {fr:Nat→Bool} {S:Nat→Nat→Prop} (h:∀l x,¬S l x):FrI F Z N D S L fr:=⟨fun _ _ _ _ _ hs=>absurd hs (h _ _)⟩
theorem FrI.put (hR:Rts F) {S S':Nat→Nat→Prop} {L:Int} {fr fr':Nat→Bool} (h:FrI F Z N D S L fr) {l x k:Nat} (hx:x<F.np) (hh:hp F l x=some k) (hS':∀l' x',S' l' x'↔S l' x'∨(l'=l∧x'=x))
  (hf:∀l',fr' l'=true→fr l'=true) (hc:pas F Z N D l x=L→D x k<0→k+1<(F.rt x).length →fr' (lin F x (k+1))=false):FrI F Z N D S' L fr':=
 ⟨fun x' h' hx' hh' h1 hs hp' hd'=>by
  rcases(hS' _ _).1 hs with h3|⟨e1,rfl⟩
  ·exact h.f x' h' hx' hh' (hf _ h1) h3 hp' hd'
  ·have h4:=hp_lin hR hx (h:=h') (by omega)
   rw [e1,hh]at h4
   obtain rfl:=Option.some.inj h4
   rw [e1]at hp'
   rw [hc hp' hd' hh']at h1;cases h1⟩
theorem FrI.weak {S S':Nat→Nat→Prop} {L:Int} {fr:Nat→Bool} (h:FrI F Z N D S L fr) (hL:0≤L) (hS':∀l' x',S' l' x'→S l' x'∨pas F Z N D l' x'<0):FrI F Z N D S' L fr:=
 ⟨fun x h' hx hh h1 hs hp'=>by
  rcases hS' _ _ hs with h3|h3
  ·exact h.f x h' hx hh h1 h3 hp'
  ·omega⟩
theorem LeI.end0 (hR:Rts F) {T:Nat} (hc:CT F Z N T D) (hL:∀i h,i<F.np→h<(F.rt i).length →lin F i h<Z.n) {L:Int} (h:LeI F Z N D (fun l _=>l<Z.n) L) (h0:L<0):∀i k,i<F.np→k<(F.rt i).length →D i k=tr F Z N i k:=
 hc.fin hR fun i k hi hk hd=>Classical.byContradiction fun hn=>by
  have:=h.mn (lin F i k) i (hL i k hi hk) (by omega) ⟨k,hp_lin hR hi hk,hd⟩
  omega
theorem LeI.end1 (hR:Rts F) {T:Nat} (hc:CT F Z N T D) (hL:∀i h,i<F.np→h<(F.rt i).length →lin F i h<Z.n) {L:Int} (h:LeI F Z N D (fun l _=>l<Z.n) L) (h0:0≤L):∃K:Nat,L=K∧T≤K∧K<N∧CT F Z N K D:=by
 obtain⟨l,x,hx,hp',k,hh,hd⟩:=h.at' h0
 obtain⟨h1,h2⟩:=hp_some hh
 obtain⟨K,rfl⟩:∃K:Nat,L=K:=⟨L.toNat,by omega⟩
 have h3:=hc.ge hR hx h1 (by rw [h2,hp'];omega) hd
 rw [h2,hp']at h3
 have h4:=pas_bd F Z N D l x
 refine⟨K,rfl,by omega,by omega,CT.up hR (fun i k hi hk hd hp2=>?_) hc (j:=K-T) (by omega)⟩
 exact(h.mn (lin F i k) i (hL i k hi hk) hp2 ⟨k,hp_lin hR hi hk,hd⟩).2
theorem rdM_eqv {ms:List (List Int)} {L:Int} {S S':Nat→Nat→Prop} (h:∀l i,pas F Z N (dR ms) l i=L→(S l i↔S' l i)):rdM F Z N ms L S=rdM F Z N ms L S':=
 rows_ext (by rw [rdM_len,rdM_len]) (fun j=>by rw [rdM_rlen,rdM_rlen]) fun j k hj hk=>by
  rw [rdM_rlen]at hk
  rw [rdM_at hk,rdM_at hk]
  exact ite_of ⟨fun c=>⟨(h _ _ c.2.1).1 c.1,c.2⟩,fun c=>⟨(h _ _ c.2.1).2 c.1,c.2⟩⟩
theorem rdM_ct (hR:Rts F) (hL:∀i h,i<F.np→h<(F.rt i).length →lin F i h<Z.n) {ms:List (List Int)} (hS:ShM F N ms) {K:Nat} (hc:CT F Z N K (dR ms)):CT F Z N (K+1) (dR (rdM F Z N ms K fun l _=>l<Z.n)):=
 hc.step hR fun i k hi hk=>by
  rw [rdM_at (by rw [hS.r i hi];exact hk)]
  exact ite_of ⟨fun c=>c.2,fun c=>⟨hL i k hi hk,c⟩⟩
theorem rdM_qu (hR:Rts F) (hL:∀i h,i<F.np→h<(F.rt i).length →lin F i h<Z.n) {ms:List (List Int)} (hS:ShM F N ms) {K:Nat} (hc:CT F Z N K (dR ms)) {fr:Nat→Bool} (hF:FrI F Z N (dR ms) (fun l _=>l<Z.n) K fr) {l:Nat} (hl:fr l=true):
  qu F (dR (rdM F Z N ms K fun l _=>l<Z.n)) l=qu F (dR ms) l:=
 qu_keep (hc.mon hR) ((rdM_ct hR hL hS hc).mon hR) fun i k hi hk e=>by
  rw [rdM_at (by rw [hS.r i hi];omega)]
  refine if_neg fun c=>?_
  exact hF.f i k hi hk (by rw [e];exact hl) (hL i k hi (by omega)) c.2.1 c.2.2
end Go.Mc
