/-
  A text of the proofs of this seat: lemmas that the statements' proofs use; it states nothing of the program by itself beyond the contracts that its theorems bear. Conditions: those that stand in each theorem. Its short name: Br2.
-/
import Derived.Test.YtppdpfaipkjpmaaBr
set_option linter.unusedVariables false
set_option linter.unusedSimpArgs false
namespace Go.Sx
open Go.ChangeShapes Go.WideShapes Go.RowKit
def OpensArg (P : Program) (t : TypeId) {α : Type} (S : α → SV) (side : α → Prop) : Prop :=
  ∀ {H : Type} (enc : TypeId × Value → H) (W : World) (base : Nat) (v : Value) (d : DataW H) (ps : List MemPlace),
    DataW.Trod enc P W 0 (fun _ => true) true t v d ps → Value.okWide P W .any base t v →
    (∃ a, side a ∧ rel (sigW W) [] (S a) v) ∧ DataW.Trod enc P W 0 (fun b => decide (b < W.heap.size)) true t v d ps
theorem okWide_scalar {P : Program} {W : World} {base : Nat} {t : TypeId} {v : Value} {D : TypeDesc} (ht : P.underlying t = some D) (hD : aggD D = false) (h : Value.okWide P W .any base t v) : scalar v = true := by
  unfold Value.okWide at h
  rw [ht] at h
  cases v with
  | agg cs => exfalso; cases D <;> simp [aggD, Cell.okWide, Cell.ok, ht] at hD h
  | tuple cs => exfalso; cases D <;> simp [aggD, Cell.okWide, Cell.ok, ht] at hD h
  | _ => rfl
theorem opensArg_one {P : Program} {t : TypeId} {D : TypeDesc} {α : Type} {S : α → SV} {side : α → Prop} (ht : P.underlying t = some D) (hD : aggD D = false) (h : Opens P t (fun a => [S a]) side) : OpensArg P t S side := by
  intro H enc W base v d ps ⟨fuel, hf⟩ hok
  have hsc := okWide_scalar ht hD hok
  obtain ⟨_, _, ⟨a, ha, hr⟩, h4⟩ := h enc W fuel _ _ hf
  refine ⟨⟨a, ha, ?_⟩, fuel, h4⟩
  rw [scalar_cells hsc] at hr
  exact (relL_cons.1 hr).1
theorem opensArg_struct {P : Program} {t : TypeId} {fs : Array Field} {α : Type} {S : α → List SV} {side : α → Prop} (ht : P.underlying t = some (.struct fs)) (h : Opens P t S side) : OpensArg P t (fun a => .agg (S a)) side := by
  intro H enc W base v d ps ⟨fuel, hf⟩ hok
  unfold Value.okWide at hok
  rw [ht] at hok
  obtain ⟨cs, rfl, _, _⟩ := hok
  obtain ⟨_, _, ⟨a, ha, hr⟩, h4⟩ := h enc W fuel _ _ hf
  refine ⟨⟨a, ha, ?_⟩, fuel, h4⟩
  simp only [rel]
  exact ⟨cs.toList, by simp, by simpa [Value.cells] using hr⟩
theorem OpensArg.imp {P : Program} {t : TypeId} {α β : Type} {S : α → SV} {side : α → Prop} {S' : β → SV} {side' : β → Prop} (h : OpensArg P t S side) (hi : ∀ a, side a → ∃ b, side' b ∧ Imp (S a) (S' b)) : OpensArg P t S' side' := by
  intro H enc W base v d ps ht hok
  obtain ⟨⟨a, ha, hr⟩, h2⟩ := h enc W base v d ps ht hok
  obtain ⟨b, hb, hi⟩ := hi a ha
  exact ⟨⟨b, hb, hi _ _ _ hr⟩, h2⟩

def OpensA (P : Program) (ts : List TypeId) {α : Type} (S : α → List SV) (side : α → Prop) : Prop :=
  ∀ {H : Type} (enc : TypeId × Value → H) (W : World) (base : Nat) (vs : List Value) (ds : List (DataW H)) (ps : List MemPlace),
    DataW.TrodAll enc P W 0 (fun _ => true) true ts vs ds ps → (∀ (j : Nat) t v, ts[j]? = some t → vs[j]? = some v → Value.okWide P W .any base t v) →
    (∃ a, side a ∧ relL (sigW W) [] (S a) vs) ∧ DataW.TrodAll enc P W 0 (fun b => decide (b < W.heap.size)) true ts vs ds ps ∧ ds.length = ts.length
theorem opensA_nil {P : Program} : OpensA P [] (fun _ : Unit => []) (fun _ => True) := by
  intro H enc W base vs ds ps h _
  obtain ⟨rfl, rfl, rfl⟩ := trodAll_nil h
  exact ⟨⟨(), trivial, by simp [relL]⟩, rfl, rfl⟩
theorem opensA_cons {P : Program} {t : TypeId} {ts : List TypeId} {α β : Type} {S : α → SV} {side : α → Prop} {S' : β → List SV} {side' : β → Prop}
    (h : OpensArg P t S side) (h' : OpensA P ts S' side') : OpensA P (t :: ts) (fun x : α × β => S x.1 :: S' x.2) (fun x => side x.1 ∧ side' x.2) := by
  intro H enc W base vs ds ps hT hok
  obtain ⟨v, vs', d, ds', p, q, rfl, rfl, rfl, h1, h2⟩ := trodAll_cons hT
  obtain ⟨⟨a, g1, g2⟩, g3⟩ := h enc W base v d p h1 (hok 0 t v (by simp) (by simp))
  obtain ⟨⟨b, k1, k2⟩, k3, k4⟩ := h' enc W base vs' ds' q h2 (fun j t' v' hj hv => hok (j + 1) t' v' (by simpa using hj) (by simpa using hv))
  exact ⟨⟨(a, b), ⟨g1, k1⟩, relL_cons.2 ⟨g2, k2⟩⟩, trodAll_cons_mk g3 k3, by simp [k4]⟩

theorem trodAll_carry {H : Type} {enc : TypeId × Value → H} {P : Program} {w w' : World} {sp : Nat → Bool} : ∀ {ts : List TypeId} {vs : List Value} {ds : List (DataW H)} {ps : List MemPlace},
    DataW.TrodAll enc P w 0 sp true ts vs ds ps → (∀ p ∈ ps, w.sameAt w' p) → DataW.TrodAll enc P w' 0 sp true ts vs ds ps
  | [], vs, ds, ps, h, _ => by obtain ⟨rfl, rfl, rfl⟩ := trodAll_nil h; exact trodAll_mk0
  | t :: ts, vs, ds, ps, h, hs => by
    obtain ⟨v, vs', d, ds', p, q, rfl, rfl, rfl, ⟨n, h1⟩, h2⟩ := trodAll_cons h
    exact trodAll_cons_mk ⟨n, DataW.trod_carry n t _ _ h1 (fun p hp => hs p (List.mem_append.2 (.inl hp)))⟩ (trodAll_carry h2 (fun p hp => hs p (List.mem_append.2 (.inr hp))))

/- A LAW: what its contract gives, in the form's words -/
theorem law_contract {P : Program} {f : Nat} {fn : Func} {spec : ChangeSpec} {ts : List TypeId} {tb : TypeId} {α : Type} {S : α → List SV} {side : α → Prop}
    (hp : fn.params.toList = ts) (hrt : fn.resultTypes = #[tb]) (htb : P.underlying tb = some .bool)
    (hO : OpensA P ts S side) (hctr : ∀ a, side a → Ctr P f (S a) [] (fun r _ => r = .bl true)) (hvars : spec.vars = [])
    (hspec : ∀ (H : Type) (ds : List (DataW H)), ds.length = ts.length → spec.fn H ds = { results := [.lit (.bool true)], args := ds })
    (H : Type) (enc : TypeId × Value → H) (W : World) (base : Nat) (args : Array Value) (ds gs : List (DataW H)) (before : List MemPlace)
    (hval : ∀ (j : Nat) t v, fn.params[j]? = some t → args[j]? = some v → Value.okWide P W .any base t v)
    (hW : DataW.Whole enc P fn.params.toList spec.vars false W args.toList ds gs before) :
    Calls P f args W fun e W' => ∃ v, e = .returned v ∧ spec.post enc P fn false true false false W args v W' := by
  have hW' := hW
  obtain ⟨p, q, hA, hV, rfl, hfz, hnd⟩ := hW
  rw [hvars] at hV
  obtain ⟨rfl, rfl⟩ := trodVars_none hV
  rw [hp] at hA
  obtain ⟨⟨a, ha, hr⟩, hA2, hlen⟩ := hO enc W base args.toList ds p hA (fun j t v hj hv => hval j t v (by rw [← hj, ← hp]; simp) (by simpa using hv))
  refine ((hctr a ha).2 W (sigW W) [] args.toList (sigW_ok W) hr).mono fun e W' hq => ?_
  obtain ⟨v, σ', β', own', r, rfl, _, hfr, hrel, rfl⟩ := hq
  simp only [rel] at hrel
  subst hrel
  have hold : ∀ b, b < W.heap.size → W'.heap[b]? = W.heap[b]? := fun b hb => hfr.block b hb (fun h x hx => by simp at hx)
  have hlt : ∀ p' ∈ p, p'.block < W.heap.size := fun p' hp' => hW'.lt p' (by simpa using hp')
  have hsame : ∀ p' ∈ p, W.sameAt W' p' := by
    intro p' hp'
    have hb := hold _ (hlt p' hp')
    cases p' with
    | cell b off => simp only [MemPlace.block] at hb; simp only [World.sameAt, World.cell?, hb]
    | map b => simpa [World.sameAt, MemPlace.block] using hb
  refine ⟨_, rfl, ds, [], p ++ [], [], p, [], hW', ?_, ?_, ?_, ?_, fun h => by cases h⟩
  · rw [hrt, List.append_nil, hspec H ds hlen]
    exact trodAll_cons_mk (shut_bool htb true) trodAll_mk0
  · rw [hp, List.append_nil, hspec H ds hlen]
    exact trodAll_carry hA2 hsame
  · rw [hvars, List.append_nil, hspec H ds hlen]; rfl
  · refine ⟨hfr.os, hfr.output, fun i hi => ?_⟩
    have hb := hold i hi
    rw [hb]
    cases W.heap[i]? with
    | none => simp
    | some o => cases o <;> simp
end Go.Sx
