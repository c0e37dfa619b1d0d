/-
  A text of the proofs of this seat: lemmas that the statements' proofs use; it states nothing of the program by itself beyond the contracts that its theorems bear. Conditions: those that stand in each theorem. Its short name: SxR.
-/
import Derived.Test.YtaomhdljcdadaaaGreatSxC
import Derived.RangeFuncRecord
import Derived.OrdersIn
set_option linter.unusedVariables false
set_option linter.unusedSimpArgs false
section
namespace Go.Sx

/-! ### ranges over functions: the walk inside a round's frame -/
abbrev FW (ro : Option Nat) : Fence := { fn := fun _ => True, depth := none, alive := false, round := ro }
def opsW (st : SS → Oper → (SS → Prop) → Prop) (all : List Oper) : List Oper → SS → (SS → Prop) → Prop
  | [], S, K => K S
  | o :: r, ⟨tm, own⟩, K => match o.guard with
    | none => st ⟨tm, own⟩ o fun S' => opsW st all r S' K
    | some (j, want) => match (all[j]?).bind (·.dst) with
      | some t => match tlook tm t with
        | .bl b => match b, want with
          | true, true => st ⟨tm, own⟩ o fun S' => opsW st all r S' K
          | false, false => st ⟨tm, own⟩ o fun S' => opsW st all r S' K
          | true, false => SS.setK ⟨tm, own⟩ o.dst (.raw undef) fun S => opsW st all r S K
          | false, true => SS.setK ⟨tm, own⟩ o.dst (.raw undef) fun S => opsW st all r S K
        | .bp p => match want with
          | true => CondOb p (st ⟨(t, .bl true) :: tm, own⟩ o fun S' => opsW st all r S' K) (SS.setK ⟨(t, .bl false) :: tm, own⟩ o.dst (.raw undef) fun S => opsW st all r S K)
          | false => CondOb p (SS.setK ⟨(t, .bl true) :: tm, own⟩ o.dst (.raw undef) fun S => opsW st all r S K) (st ⟨(t, .bl false) :: tm, own⟩ o fun S' => opsW st all r S' K)
        | .raw v => match noBool v with
          | true => SS.setK ⟨tm, own⟩ o.dst (.raw undef) fun S => opsW st all r S K
          | false => False
        | _ => False
      | none => False

/-! ### code -/
def noDef : List Oper → Bool
  | [] => true
  | o :: l => match o.op with
    | .defer _ => false
    | _ => noDef l
abbrev Rg := Operand → Array Tmp → Code → Code → SS → (SS → Prop) → Prop
def vcW (E : Env) (st : SS → Oper → (SS → Prop) → Prop) (rg : Rg) : Code → SS → KK → Prop
  | .skip, S, K => K .normal S
  | .region _ ops false, S, K => opsW st ops.toList ops.toList S (K .normal)
  | .region _ ops true, S, K => match noDef ops.toList with
    | true => DrawOb E ops S (K .normal)
    | false => False
  | .seq a b, S, K => match ways a with
    | 0 => vcW E st rg a S (seqK (fun S' => vcW E st rg b S' K) K)
    | 1 => vcW E st rg a S (seqK (fun S' => vcW E st rg b S' K) K)
    | _ => CutOb E.npre E.nm (vcW E st rg a) (vcW E st rg b) S K
  | .cond c t e, S, K => S.evN c fun s => match s with
    | .bl true => vcW E st rg t S K
    | .bl false => vcW E st rg e S K
    | .bp p => CondOb p (vcW E st rg t S K) (vcW E st rg e S K)
    | _ => False
  | .block i c, S, K => vcW E st rg c S (blkK i K)
  | .loop c, S, K => Gh E.npre E.nm (fun S => LoopOb E.npre E.nm (vcW E st rg c) S K) S
  | .exit i, S, K => K (.exit i) S
  | .ret, S, K => K .ret S
  | .label _, S, K => K .normal S
  | .rangeFunc g ps a b, S, K => rg g ps a b S (K .normal)
  | _, _, _ => False

end Go.Sx
end
section
namespace Go.Sx
/-! ### the record of a range over a function -/
structure YP where
  L : Nat
  rc : Obj
  m : Nat
  β : List HB
  σ : PH
abbrev yv (L : Nat) : Value := .func (.yield L) #[] #[]
structure Side (Y : YP) (w : World) (σ : PH) (β : List HB) : Prop where
  at_ : w.heap[Y.L]? = some Y.rc
  fr : ∀ (h : Nat) (x : HB), β[h]? = some x → Y.L ∉ x.blks
  pre : β.take Y.m = Y.β
  le : PH.le Y.σ σ
  ml : Y.m ≤ β.length
  nc : ∀ cs T fz, Y.rc ≠ .cells cs T fz
/- how a call ends -/
abbrev EndP (w : World) (σ : PH) (β : List HB) (post : SV → List Chunk → Prop) (e : Ending) (w' : World) : Prop :=
  ∃ v σ' β' own' r, e = .returned v ∧ HeapOK w' σ' β' own' ∧ Fr w σ β w' σ' β' ∧ rel σ' β' r v ∧ post r own'
/- a call of yield -/
def YldAt (F : Fence) (m : Nat) (P : Program) (l : Nat) (args : Array Value) (W : World) (R : Ending → World → Prop) : Prop :=
  ∃ fn tmps x y, (Instr.yield l args).run P W = .ok (.round l fn tmps x y) W ∧ RoundIn F m P l fn tmps x y W R
/- a round of a range: the contract of a call of yield -/
structure CtrY (P : Program) (Y : YP) (args : List SV) (own : List Chunk) (post : SV → List Chunk → Prop) : Prop where
  run : ∀ w σ β vs, HeapOK w σ β own → Side Y w σ β → relL σ β args vs → ∀ n, YldAt (FW none) n P Y.L vs.toArray w (EndP w σ β post)
/- the contract of a function that is ranged over -/
structure CtrL (P : Program) (Y : YP) (f : Nat) (args : List SV) (own : List Chunk) (post : SV → List Chunk → Prop) : Prop where
  fn : ∃ fn, P.funcs[f]? = some fn ∧ (fn.name == "runtime.NumGoroutine") = false ∧ fn.body.isNone = false
  run : ∀ w σ β vs, HeapOK w σ β own → Side Y w σ β → relL σ β args vs → Calls P f vs.toArray w (EndP w σ β post)
theorem YldAt.mono {F n P l args W} {R R' : Ending → World → Prop} (h : YldAt F n P l args W R) (hp : ∀ e w', R e w' → R' e w') : YldAt F n P l args W R' := by
  obtain ⟨fn, tmps, x, y, h1, h2⟩ := h
  exact ⟨fn, tmps, x, y, h1, h2.mono hp⟩

inductive YieldOb (P : Program) (Y : YP) (free : Nat → Bool) (sargs : List SV) (S : SS) (k : SS → SV → Prop) : Prop
  | mk (m : Nat) (hm : Y.m = m) (hs : List Nat) {args' args : List SV} {own0 : List Chunk} {post : SV → List Chunk → Prop} (hf : CtrY P Y args own0 post) (ha : toCL hs sargs = some args') (hi : ImpL args' args)
      (ho : lend S.own hs = some own0) (hnd : (nodupB hs && allFree free hs) = true) (hfst : (firstN m 0 hs && Nat.ble m hs.length) = true)
      (hk : ∀ r own', post r own' → forceO (giveBack hs (own'.map (renC (back hs S.own.length))) S.own ++ (own'.drop hs.length).map (renC (back hs S.own.length))) fun own => forceV (ren (back hs S.own.length) r) fun s => S.withTm fun tm => k ⟨tm, own⟩ s) : YieldOb P Y free sargs S k
inductive YOb (v : Value) (L : Nat) (K : Prop) : Prop
  | mk (h : v = yv L) (hk : K) : YOb v L K
theorem Side.sub {Y : YP} {w0 w : World} {σ0 σ : PH} {β0 β : List HB} {nt : Par} {S : SS} {a : Act} (hS : Side Y w0 σ0 β0) (hp : nt.pin Y.L = some Y.rc) (hall : ∀ h, nt.free h = true)
    (g : GG w0 σ0 β0 nt σ β S a w) {hs : List Nat} {βc : List HB} (hβ : βc = hs.map fun h => (β[h]?).getD (hb4 none 0 0 0)) (hlt : ∀ h ∈ hs, h < β.length) (hf : (firstN Y.m 0 hs && Nat.ble Y.m hs.length) = true) : Side Y w σ βc := by
  rw [Bool.and_eq_true] at hf
  have hml := Nat.le_of_ble_eq_true hf.2
  have hβc' : ∀ (j : Nat) (x : HB), βc[j]? = some x → ∃ h, hs[j]? = some h ∧ β[h]? = some x := by
    intro j x hx
    subst hβ
    simp only [List.getElem?_map] at hx
    cases hj : hs[j]? with
    | none => rw [hj] at hx; cases hx
    | some h =>
      rw [hj] at hx
      have := hlt h (List.mem_of_getElem? hj)
      simp only [Option.map_some, Option.some.injEq] at hx
      refine ⟨h, rfl, ?_⟩
      rw [List.getElem?_eq_getElem this] at hx ⊢
      simp only [Option.getD_some] at hx; rw [hx]
  refine ⟨g.pn.at_ _ _ hp, fun j x hx hb => ?_, ?_, fun b cs h => g.fr.le b cs (hS.le b cs h), by rw [hβ, List.length_map]; exact hml, hS.nc⟩
  · obtain ⟨h, _, hh⟩ := hβc' j x hx
    have := g.pn.fr h x _ hh (.inl (hall h)) hb
    rw [hp] at this; cases this
  · rw [← hS.pre]
    have hm0 := hS.ml
    apply List.ext_getElem?
    intro i
    by_cases hi : i < Y.m
    · rw [List.getElem?_take_of_lt hi, List.getElem?_take_of_lt hi]
      have h1 := firstN_ok hf.1 i (by omega)
      rw [Nat.zero_add] at h1
      have h2 : β0[i]? = some β0[i] := List.getElem?_eq_getElem (by omega)
      have h3 := g.fr.pre i _ h2
      rw [h2, hβ]
      simp only [List.getElem?_map, h1, Option.map_some, h3, Option.getD_some]
    · rw [List.getElem?_eq_none (by rw [List.length_take]; omega), List.getElem?_eq_none (by rw [List.length_take]; omega)]

end Go.Sx
end
section
namespace Go.Sx
theorem Fr.trans {w0 σ0 β0 w1 σ1 β1 w2 σ2 β2} (F : Fr w0 σ0 β0 w1 σ1 β1) (F' : Fr w1 σ1 β1 w2 σ2 β2) : Fr w0 σ0 β0 w2 σ2 β2 := by
  have hin : ∀ b, b < w0.heap.size → ¬ inB β0 b → ¬ inB β1 b := by
    rintro b hb hn ⟨h, x, hx, hbx⟩
    rcases F.fresh h x b hx hbx with h1 | h1
    · omega
    · exact hn h1
  refine ⟨F'.os.trans F.os, F'.tape.trans F.tape, ⟨F'.output.1.trans F.output.1, Nat.le_trans F.output.2 F'.output.2⟩, Nat.le_trans F.size F'.size, fun b hb hn => ?_, fun b cs h => F'.le b cs (F.le b cs h), fun b cs h hb => ?_, F.pre.trans F'.pre, fun h x b hx hb => ?_⟩
  · rw [F'.block b (by have := F.size; omega) (hin b hb hn), F.block b hb hn]
  · rcases F'.new b cs h (by have := F.size; omega) with h1 | h1
    · exact F.new b cs h1 hb
    · by_cases hn : inB β0 b
      · exact .inr hn
      · exact absurd h1 (hin b hb hn)
  · rcases F'.fresh h x b hx hb with h1 | ⟨h', y, hy, hby⟩
    · exact .inl (by have := F.size; omega)
    · exact F.fresh h' y b hy hby
/-! ### a round -/
def psS : List Nat → List SV → List (Nat × SV) → List (Nat × SV)
  | p :: ps, s :: ss, tm => psS ps ss ((p, s) :: tm)
  | _, _, tm => tm
abbrev bodyE (E : Env) (n : Nat) : Env := ⟨E.P, E.tys, n, fun _ => true, true⟩
def stepB (E : Env) (S : SS) (o : Oper) (K : SS → Prop) : Prop :=
  match o.op with
  | .defer _ => False
  | _ => stepS E S o K
def noRg : Rg := fun _ _ _ _ _ _ => False
def noK : KK := fun _ _ => False
def bodyK (E : Env) (A : List Chunk → Prop) : KK
  | .normal, S => Gh E.npre E.nm (fun S => finK E.npre S [] fun _ o => A o) S
  | _, _ => False
end Go.Sx
end
section
namespace Go.Sx
/-! ### the statement -/
inductive RangeOb (E : Env) (N : Nat) (gid : Nat) (caps : List SV) (ps : List Nat) (x y : Code) (S : SS) (k : SS → Prop) : Prop
  | mk (m : Nat) (xs : List (List SV)) (A R B : Nat → List Chunk → Prop) (hm : (bndT m S.tm && Nat.ble m S.own.length && okDst N (ps ++ (writes x ++ writes y))) = true) (hxs : ∀ r ∈ xs, r.length = ps.length)
      (hit : ∀ Y : YP, Y.m = m → (∀ j o r, A j o → xs[j]? = some r → CtrY E.P Y r o (fun v o' => v = .bl true ∧ R (j + 1) o')) → CtrL E.P Y gid (.raw (yv Y.L) :: caps) S.own (fun _ o => B xs.length o))
      (hbody : ∀ j o r, A j o → xs[j]? = some r → vcW (bodyE E o.length) (stepB (bodyE E o.length)) noRg x ⟨psS ps r S.tm, o⟩ (seqK (fun S1 => vcW (bodyE E o.length) (stepB (bodyE E o.length)) noRg y S1 (bodyK (bodyE E o.length) (R (j + 1)))) noK))
      (hk : ∀ o, B xs.length o → k ⟨S.tm, o⟩) : RangeOb E N gid caps ps x y S k
def Mark (w0 : World) (nt : Par) (d : Deferred) : Prop := ∃ D, d = { target := .collected D, args := #[] } ∧ w0.heap.size ≤ D ∧ nt.pin D = some (.deferred (some []))
structure APR (w0 : World) (N : Nat) (nt : Par) : Prop where
  n : nt.n = N
  fr : nt.free = fun _ => true
  dm : ∀ d ∈ nt.ds, Mark w0 nt d
  nd : nt.ds.Nodup
  bp : BP nt

end Go.Sx
end
