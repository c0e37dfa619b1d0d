/- Lemmas of this seat. Conditions: as stated. -/
import Derived.Test.YtaomhdljcdadaaaGreatTy
import Derived.Test.YtaomhdljcdadaaaGreatKw
set_option linter.unusedVariables false
set_option linter.unusedSimpArgs false
set_option maxRecDepth 100000
namespace Go.Proofs.YtaomhdljcdadaaaGreat
open Go.Sx Go.Np Go.Cv
theorem Opens.imp {P:Program} {t:TypeId} {α β:Type} {S:α→List SV} {side:α→Prop} {S':β→List SV} {side':β→Prop} (h:Opens P t S side) (hi:∀a,side a→∃b,side' b∧S a=S' b):Opens P t S' side':=by
 intro H enc W fuel cs x hx
 obtain⟨h1,h2,⟨a,ha,hr⟩,h4⟩:=h enc W fuel cs x hx
 obtain⟨b,hb,e⟩:=hi a ha
 exact⟨h1,h2,⟨b,hb,e▸hr⟩,h4⟩
theorem opensI:Opens Tryz.prog 3 (fun n:Int=>[i64 n]) Fit:=opens_int (by kernel_rfl) (by kernel_rfl)
abbrev FitS (s:ByteArray):Prop:=s.size≤maxLen
theorem opensS:Opens Tryz.prog 9 (fun s:ByteArray=>[.str s]) FitS:=opens_string (by kernel_rfl) (by kernel_rfl)
theorem opensL:Opens Tryz.prog 22 (fun l:List Int=>[.psl 1 (ints l)]) Fits':=
 opens_slice (e:=3) (by kernel_rfl) (by kernel_rfl) (by decide+kernel) opensI
abbrev FitC (c:C4):Prop:=c.1.length≤maxLen
def curveFs:List Field:=[⟨ "Values",22,0,false, "", "",0⟩,⟨ "Period",3,1,false, "", "",24⟩,⟨ "Increment",3,2,false, "", "",32⟩]
theorem opensC:Opens Tryz.prog 43 (fun c:C4=>[.psl 1 (ints c.1),i64 c.2.1,i64 c.2.2]) FitC:=
 Opens.imp (opens_struct (P:=Tryz.prog) (fs:=curveFs) (by kernel_rfl) (by kernel_rfl)
  (opensF_cons (P:=Tryz.prog) (S:=fun l:List Int=>[.psl 1 (ints l)]) rfl opensL (opensF_cons (P:=Tryz.prog) (S:=fun n:Int=>[i64 n]) (by kernel_rfl) opensI
   (opensF_cons (P:=Tryz.prog) (S:=fun n:Int=>[i64 n]) (by kernel_rfl) opensI opensF_nil))))
  (fun a ha=>⟨(a.1,a.2.1,a.2.2.1),ha.1.1,rfl⟩)
def sizeFs:List Field:=[⟨ "Least",3,0,false, "", "",0⟩,⟨ "Most",3,1,false, "", "",8⟩]
theorem opensZ:Opens Tryz.prog 41 (fun f:Int×Int=>[i64 f.1,i64 f.2]) (fun _=>True):=
 Opens.imp (opens_struct (P:=Tryz.prog) (fs:=sizeFs) (by kernel_rfl) (by kernel_rfl)
  (opensF_cons (P:=Tryz.prog) (S:=fun n:Int=>[i64 n]) rfl opensI (opensF_cons (P:=Tryz.prog) (S:=fun n:Int=>[i64 n]) (by kernel_rfl) opensI opensF_nil)))
  (fun a _=>⟨(a.1,a.2.1),trivial,rfl⟩)
def lineFs:List Field:=[⟨ "Kind",3,0,false, "", "",0⟩,⟨ "Capacity",3,1,false, "", "",8⟩,⟨ "Classes",3,2,false, "", "",16⟩,⟨ "Weights",22,3,false, "", "",24⟩,⟨ "Slots",22,4,false, "", "",48⟩]
theorem opensLn:Opens Tryz.prog 57 lnv (fun l=>l.w.length≤maxLen∧l.s.length≤maxLen):=
 Opens.imp (opens_struct (P:=Tryz.prog) (fs:=lineFs) (by kernel_rfl) (by kernel_rfl)
  (opensF_cons (P:=Tryz.prog) (S:=fun n:Int=>[i64 n]) rfl opensI (opensF_cons (P:=Tryz.prog) (S:=fun n:Int=>[i64 n]) (by kernel_rfl) opensI (opensF_cons (P:=Tryz.prog) (S:=fun n:Int=>[i64 n]) (by kernel_rfl) opensI
   (opensF_cons (P:=Tryz.prog) (S:=fun l:List Int=>[.psl 1 (ints l)]) (by kernel_rfl) opensL (opensF_cons (P:=Tryz.prog) (S:=fun l:List Int=>[.psl 1 (ints l)]) (by kernel_rfl) opensL opensF_nil))))))
  (fun a ha=>⟨⟨a.1,a.2.1,a.2.2.1,a.2.2.2.1,a.2.2.2.2.1⟩,⟨ha.2.2.2.1.1,ha.2.2.2.2.1.1⟩,rfl⟩)
def flowFs:List Field:=[⟨ "Name",9,0,false, "", "",0⟩,⟨ "Route",22,1,false, "", "",16⟩,⟨ "Class",3,2,false, "", "",40⟩,⟨ "Sizes",41,3,false, "", "",48⟩,⟨ "Contract",43,5,false, "", "",64⟩]
theorem opensFl:Opens Tryz.prog 45 flv (fun f=>f.nm.size≤maxLen∧f.rt.length≤maxLen∧f.v.length≤maxLen):=
 Opens.imp (opens_struct (P:=Tryz.prog) (fs:=flowFs) (by kernel_rfl) (by kernel_rfl)
  (opensF_cons (P:=Tryz.prog) (S:=fun s:ByteArray=>[.str s]) rfl opensS (opensF_cons (P:=Tryz.prog) (S:=fun l:List Int=>[.psl 1 (ints l)]) (by kernel_rfl) opensL (opensF_cons (P:=Tryz.prog) (S:=fun n:Int=>[i64 n]) (by kernel_rfl) opensI
   (opensF_cons (P:=Tryz.prog) (S:=fun f:Int×Int=>[i64 f.1,i64 f.2]) (by kernel_rfl) opensZ (opensF_cons (P:=Tryz.prog) (S:=fun c:C4=>[.psl 1 (ints c.1),i64 c.2.1,i64 c.2.2]) (by kernel_rfl) opensC opensF_nil))))))
  (fun a ha=>⟨⟨a.1,a.2.1,a.2.2.1,a.2.2.2.1.1,a.2.2.2.1.2,a.2.2.2.2.1.1,a.2.2.2.2.1.2.1,a.2.2.2.2.1.2.2⟩,⟨ha.1,ha.2.1.1,ha.2.2.2.2.1⟩,rfl⟩)
abbrev FitNs (l:List ByteArray):Prop:=l.length≤maxLen∧∀s∈l,FitS s
abbrev FitLns (l:List Ln):Prop:=l.length≤maxLen∧∀x∈l,x.w.length≤maxLen∧x.s.length≤maxLen
abbrev FitFls (l:List Fl):Prop:=l.length≤maxLen∧∀f∈l,f.nm.size≤maxLen∧f.rt.length≤maxLen∧f.v.length≤maxLen
theorem opensNs:Opens Tryz.prog 26 (fun l:List ByteArray=>[.psl 1 (strs l)]) FitNs:=
 Opens.imp (opens_slice (e:=9) (by kernel_rfl) (by kernel_rfl) (by decide+kernel) opensS) (fun a ha=>⟨a,ha,rfl⟩)
theorem opensLns:Opens Tryz.prog 27 (fun l:List Ln=>[.psl 5 (lns l)]) FitLns:=
 Opens.imp (opens_slice (e:=57) (by kernel_rfl) (by kernel_rfl) (by decide+kernel) opensLn) (fun a ha=>⟨a,ha,rfl⟩)
theorem opensFls:Opens Tryz.prog 28 (fun l:List Fl=>[.psl 8 (fls l)]) FitFls:=
 Opens.imp (opens_slice (e:=45) (by kernel_rfl) (by kernel_rfl) (by decide+kernel) opensFl) (fun a ha=>⟨a,ha,rfl⟩)
def netFs:List Field:=[⟨ "Names",26,0,false, "", "",0⟩,⟨ "Lines",27,1,false, "", "",24⟩,⟨ "Flows",28,2,false, "", "",48⟩]
theorem opens_net:OpensArg Tryz.prog 30 ntv (fun n=>FitNs n.nm∧FitLns n.ln∧FitFls n.fl):=
 OpensArg.imp (opensArg_struct (fs:=netFs.toArray) (by kernel_rfl) (opens_struct (P:=Tryz.prog) (fs:=netFs) (by kernel_rfl) (by kernel_rfl)
  (opensF_cons (P:=Tryz.prog) (S:=fun l:List ByteArray=>[.psl 1 (strs l)]) rfl opensNs (opensF_cons (P:=Tryz.prog) (S:=fun l:List Ln=>[.psl 5 (lns l)]) (by kernel_rfl) opensLns
   (opensF_cons (P:=Tryz.prog) (S:=fun l:List Fl=>[.psl 8 (fls l)]) (by kernel_rfl) opensFls opensF_nil)))))
  (fun a ha=>⟨⟨a.1,a.2.1,a.2.2.1⟩,⟨ha.1,ha.2.1,ha.2.2.1⟩,Imp.refl _⟩)
theorem nl_of {n:Nt} (h:FitNs n.nm∧FitLns n.ln∧FitFls n.fl):NL n:=
 ⟨maxLen_le h.1.1,maxLen_le h.2.1.1,maxLen_le h.2.2.1,fun s hs=>maxLen_le (h.1.2 s hs),fun l hl=>⟨maxLen_le (h.2.1.2 l hl).1,maxLen_le (h.2.1.2 l hl).2⟩,fun f hf=>⟨maxLen_le (h.2.2.2 f hf).1,maxLen_le (h.2.2.2 f hf).2.1,maxLen_le (h.2.2.2 f hf).2.2⟩⟩
end Go.Proofs.YtaomhdljcdadaaaGreat
