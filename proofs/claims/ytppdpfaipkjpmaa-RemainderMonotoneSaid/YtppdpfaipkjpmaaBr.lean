/-
  A text of the proofs of this seat: lemmas that the statements' proofs use; it states nothing of the program by itself beyond the contracts that its theorems bear. Conditions: those that stand in each theorem. Its short name: Br.
-/
import Derived.Test.YtppdpfaipkjpmaaSx14
import Derived.ChangeSame
import Derived.ChangeArms
import Derived.ChangeSlices
import Derived.RowKit
import Derived.OpenShut
set_option linter.unusedVariables false
set_option linter.unusedSimpArgs false
namespace Go.Sx
open Go.ChangeShapes Go.WideShapes Go.RowKit
/-! ### from the form's reading of the arguments to symbolic values -/
def sigW (W : World) : PH := fun b =>
  match W.heap[b]? with
  | some (.cells c _ _) => some c.toList
  | _ => none
theorem sigW_ok (W : World) : HeapOK W (sigW W) [] [] where
  ph b cs h := by
    unfold sigW at h
    split at h
    · rename_i c T fz e; cases h; exact ⟨T, fz, by rw [e]⟩
    · cases h
  len := rfl
  ok h c x hc := by simp at hc
  lt h x b hx := by simp at hx
  apart h h' c c' x x' b hc := by simp at hc
theorem sigW_cell {W : World} {a : Addr} {v : Value} (h : W.cell? a = some v) : a.spot = none ∧ ∃ cs, sigW W a.block = some cs ∧ cs[a.off]? = some v := by
  unfold World.cell? at h
  split at h
  · rename_i c T fz e
    split at h
    · cases h
    · rename_i hs
      refine ⟨by simpa using hs, c.toList, by simp [sigW, e], by simpa using h⟩
  · cases h

def Opens (P : Program) (t : TypeId) {α : Type} (S : α → List SV) (side : α → Prop) : Prop :=
  ∀ {H : Type} (enc : TypeId × Value → H) (W : World) (fuel : Nat) (cs : List Value) (x : DataW H × List MemPlace),
    DataW.trod enc P W 0 (fun _ => true) true fuel t cs = some x →
    cs.length = P.cellsOf t ∧ (∀ v ∈ cs, scalar v = true) ∧ (∃ a, side a ∧ relL (sigW W) [] (S a) cs) ∧
    DataW.trod enc P W 0 (fun b => decide (b < W.heap.size)) true fuel t cs = some x

theorem opens_int {P : Program} {t : TypeId} {k : IntKind} (ht : P.underlying t = some (.int k)) (hc : P.cellsOf t = 1) :
    Opens P t (fun n : Int => [.num k n]) (fun n => k.min ≤ n ∧ n ≤ k.max) := by
  intro H enc W fuel cs x h
  obtain ⟨n, rfl, rfl, hw⟩ := DataW.trod_int ht h
  refine ⟨by simp [hc], by simp [scalar], ⟨n, by simpa [Lit.wf] using hw, by simp [relL, rel]⟩, ?_⟩
  cases fuel with
  | zero => simp [DataW.trod] at h
  | succ m => simp [DataW.trod, ht, hw]
theorem opens_bool {P : Program} {t : TypeId} (ht : P.underlying t = some .bool) (hc : P.cellsOf t = 1) :
    Opens P t (fun b : Bool => [.bl b]) (fun _ => True) := by
  intro H enc W fuel cs x h
  obtain ⟨b, rfl, rfl⟩ := DataW.trod_bool ht h
  refine ⟨by simp [hc], by simp [scalar], ⟨b, trivial, by simp [relL, rel]⟩, ?_⟩
  cases fuel with
  | zero => simp [DataW.trod] at h
  | succ m => simp [DataW.trod, ht]
theorem opens_string {P : Program} {t : TypeId} (ht : P.underlying t = some .string) (hc : P.cellsOf t = 1) :
    Opens P t (fun s : ByteArray => [.str s]) (fun s => s.size ≤ maxLen) := by
  intro H enc W fuel cs x h
  obtain ⟨s, rfl, rfl, hs⟩ := DataW.trod_string ht h
  refine ⟨by simp [hc], by simp [scalar], ⟨s, hs, by simp [relL, rel]⟩, ?_⟩
  cases fuel with
  | zero => simp [DataW.trod] at h
  | succ m => simp [DataW.trod, ht, hs]
theorem chooseL {α : Type} {n : Nat} {p : Nat → α → Prop} (h : ∀ i, i < n → ∃ x, p i x) : ∃ l : List α, l.length = n ∧ ∀ i a, l[i]? = some a → p i a := by
  induction n with
  | zero => exact ⟨[], rfl, fun i a h => by simp at h⟩
  | succ n ih =>
    obtain ⟨l, hl, hp⟩ := ih (fun i hi => h i (by omega))
    obtain ⟨x, hx⟩ := h n (by omega)
    refine ⟨l ++ [x], by simp [hl], fun i a ha => ?_⟩
    rcases getElem?_snoc ha with ⟨_, h2⟩ | ⟨h1, rfl⟩
    · exact hp i a h2
    · rw [h1, hl]; exact hx
theorem relLL_of {σ : PH} : ∀ {l : List (List SV)} {vss : List (List Value)}, l.length = vss.length → (∀ (i : Nat) (r : List SV) (vs : List Value), l[i]? = some r → vss[i]? = some vs → relL σ [] r vs) → relLL σ l vss
  | [], vss, h, _ => by simp only [relLL]; exact List.length_eq_zero_iff.1 h.symm
  | r :: l, [], h, _ => by simp at h
  | r :: l, vs :: vss, h, hp => relLL_cons.2 ⟨hp 0 r vs (by simp) (by simp), relLL_of (by simpa using h) (fun i r vs h1 h2 => hp (i + 1) r vs (by simpa using h1) (by simpa using h2))⟩
/- rows that lie one behind the other in a list -/
theorem rows_in {cs : List Value} {off esz : Nat} : ∀ {n : Nat} {vss : List (List Value)}, vss.length = n → (∀ i vs, vss[i]? = some vs → vs.length = esz ∧ ∀ j, j < esz → cs[off + (i * esz + j)]? = vs[j]?) →
    ∃ pre post, cs.drop off = vss.flatten ++ post ∧ pre = cs.take off := by
  intro n vss hn hv
  have key : ∀ (m : Nat) (vss : List (List Value)) (off : Nat), vss.length = m → (∀ i vs, vss[i]? = some vs → vs.length = esz ∧ ∀ j, j < esz → cs[off + (i * esz + j)]? = vs[j]?) → ∃ post, cs.drop off = vss.flatten ++ post := by
    intro m
    induction m with
    | zero => intro vss off h _; exact ⟨cs.drop off, by rw [List.length_eq_zero_iff.1 h]; simp⟩
    | succ m ih =>
      intro vss off h hv
      match vss, h with
      | vs :: vss, h =>
        obtain ⟨hl, h0⟩ := hv 0 vs (by simp)
        obtain ⟨post, hp⟩ := ih vss (off + esz) (by simpa using h) (fun i vs' hi => by
          obtain ⟨h1, h2⟩ := hv (i + 1) vs' (by simpa using hi)
          refine ⟨h1, fun j hj => ?_⟩
          rw [← h2 j hj]; congr 1; rw [Nat.add_mul, Nat.one_mul]; omega)
        refine ⟨post, ?_⟩
        rw [List.flatten_cons, List.append_assoc, ← hp, ← List.drop_drop]
        have e1 : (cs.drop off).take esz = vs := by
          apply List.ext_getElem?
          intro j
          rw [List.getElem?_take]
          split
          · rename_i hj
            have := h0 j hj
            rw [List.getElem?_drop, ← this]; congr 1; omega
          · rename_i hj; rw [List.getElem?_eq_none (by omega)]
        conv => lhs; rw [← List.take_append_drop esz (cs.drop off), e1]
  obtain ⟨post, hp⟩ := key n vss off hn hv
  exact ⟨cs.take off, post, hp, rfl⟩
theorem opens_slice {P : Program} {t e : TypeId} {α : Type} {S : α → List SV} {side : α → Prop} (ht : P.underlying t = some (.slice e)) (hc : P.cellsOf t = 1) (he : 0 < P.cellsOf e) (h : Opens P e S side) :
    Opens P t (fun l : List α => [.psl (P.cellsOf e) (l.map S)]) (fun l => l.length ≤ maxLen ∧ ∀ a ∈ l, side a) := by
  intro H enc W fuel cs x hx
  rcases DataW.trod_slice ht hx with ⟨rfl, rfl⟩ | ⟨a, len, cap, elems, rest, n, rfl, rfl, rfl, hb, hl, hm, hlen, hel, hsp, hns⟩
  · refine ⟨by simp [hc], by simp [scalar], ⟨[], ⟨by simp, by simp⟩, ?_⟩, ?_⟩
    · refine relL_cons.2 ⟨?_, by simp [relL]⟩
      simp only [rel]; exact ⟨none, 0, [], by simp, by simp, by simp [relLL], by simp, by simp⟩
    · cases fuel with
      | zero => simp [DataW.trod] at hx
      | succ m => simp [DataW.trod, ht]
  · obtain ⟨hrl, hr⟩ := hsp rfl
    -- every element that is read
    have each : ∀ i, i < cap → ∃ y cs', (elems ++ rest)[i]? = some y ∧ W.cells? 0 (a.add (i * P.cellsOf e)) (P.cellsOf e) = some cs' ∧ DataW.trod enc P W 0 (fun _ => true) true n e cs' = some y := by
      intro i hi
      by_cases hil : i < len
      · have h1 := hel i hil
        rw [List.getElem?_eq_getElem (show i < elems.length by omega)] at h1
        obtain ⟨cs', h2, h3⟩ := Option.bind_eq_some_iff.1 h1
        exact ⟨_, cs', by rw [List.getElem?_append_left (by omega), List.getElem?_eq_getElem (show i < elems.length by omega)], h2, h3⟩
      · have h1 := hr (i - len) (by omega)
        rw [List.getElem?_eq_getElem (show i - len < rest.length by omega), show len + (i - len) = i by omega] at h1
        obtain ⟨cs', h2, h3⟩ := Option.bind_eq_some_iff.1 h1
        exact ⟨_, cs', by rw [List.getElem?_append_right (by omega), hlen, List.getElem?_eq_getElem (show i - len < rest.length by omega)], h2, h3⟩
    have fin : DataW.trod enc P W 0 (fun b => decide (b < W.heap.size)) true (n + 1) t [.slice (some a) len cap] = some (.slice (elems.map (·.1)) (rest.map (·.1)), MemPlace.row a ((elems.length + rest.length) * P.cellsOf e) ++ (elems ++ rest).flatMap (·.2)) := by
      have one : ∀ i, i < cap → (W.cells? 0 (a.add (i * P.cellsOf e)) (P.cellsOf e)).bind (DataW.trod enc P W 0 (fun b => decide (b < W.heap.size)) true n e) = (elems ++ rest)[i]? := by
        intro i hi
        obtain ⟨y, cs', h1, h2, h3⟩ := each i hi
        rw [h2, h1]; exact (h enc W n cs' y h3).2.2.2
      have hblk : len < cap → a.block < W.heap.size := by
        intro hlc
        obtain ⟨y, cs', h1, h2, h3⟩ := each 0 (by omega)
        obtain ⟨_, h4, h5⟩ := World.cells?_some h2
        have h6 := h5 0 he
        rw [List.getElem?_eq_getElem (by omega)] at h6
        obtain ⟨_, full, h7, _⟩ := sigW_cell h6
        have h8 := ((sigW_ok W).ph _ _ h7).lt
        have e1 : ((a.add (0 * P.cellsOf e)).add 0).block = a.block := by simp [Addr.add]
        rwa [e1] at h8
      rw [DataW.trod_step]
      unfold DataW.trodStep
      simp only [ht]
      rw [if_pos ⟨hb, hl, hm⟩]
      have m1 : (List.range len).mapM (fun i => (W.cells? 0 (a.add (i * P.cellsOf e)) (P.cellsOf e)).bind (DataW.trod enc P W 0 (fun b => decide (b < W.heap.size)) true n e)) = some elems := by
        rw [mapM_range_of (g := fun i => elems.getD i (.nil, [])) len (fun i hi => by
          rw [one i (by omega), List.getElem?_append_left (by omega), List.getElem?_eq_getElem (show i < elems.length by omega)]; simp [List.getD, show i < elems.length by omega])]
        congr 1
        apply List.ext_getElem
        · simp [hlen]
        · intro i h1 h2; simp [List.getD, h2]
      have m2 : (List.range (cap - len)).mapM (fun j => (W.cells? 0 (a.add ((len + j) * P.cellsOf e)) (P.cellsOf e)).bind (DataW.trod enc P W 0 (fun b => decide (b < W.heap.size)) true n e)) = some rest := by
        rw [mapM_range_of (g := fun i => rest.getD i (.nil, [])) (cap - len) (fun i hi => by
          rw [one (len + i) (by omega), List.getElem?_append_right (by omega), hlen, show len + i - len = i by omega, List.getElem?_eq_getElem (show i < rest.length by omega)]; simp [List.getD, show i < rest.length by omega])]
        congr 1
        apply List.ext_getElem
        · simp [hrl]
        · intro i h1 h2; simp [List.getD, h2]
      rw [m1]
      simp only [Option.bind_some]
      rw [m2]
      by_cases hlc : len < cap
      · simp [hblk hlc]
      · have : rest = [] := List.length_eq_zero_iff.1 (by omega)
        subst this
        simp
    refine ⟨by simp [hc], by simp [scalar], ?_, fin⟩
    by_cases hcap : len = 0
    · subst hcap
      refine ⟨[], ⟨by simp, by simp⟩, relL_cons.2 ⟨?_, by simp [relL]⟩⟩
      simp only [rel]; exact ⟨some a, cap, [], by simp, by simp, by simp [relLL], by simp, by simp⟩
    obtain ⟨y0, cs0, _, q2, _⟩ := each 0 (by omega)
    obtain ⟨_, q4, q5⟩ := World.cells?_some q2
    have q6 := q5 0 he
    rw [List.getElem?_eq_getElem (by omega)] at q6
    have e1 : (a.add (0 * P.cellsOf e)).add 0 = a := by simp [Addr.add]
    rw [e1] at q6
    obtain ⟨hspot, full, q7, _⟩ := sigW_cell q6
    obtain ⟨b, off, spot⟩ := a
    simp only at hspot q7
    subst hspot
    obtain ⟨vss, hv1, hv2⟩ := chooseL (n := len) (p := fun i (vs : List Value) => vs.length = P.cellsOf e ∧ (∀ j, j < P.cellsOf e → full[off + (i * P.cellsOf e + j)]? = vs[j]?) ∧ (∀ v ∈ vs, scalar v = true) ∧ ∃ al, side al ∧ relL (sigW W) [] (S al) vs) (fun i hi => by
      obtain ⟨y, cs', h1, h2, h3⟩ := each i (by omega)
      obtain ⟨_, h4, h5⟩ := World.cells?_some h2
      obtain ⟨g1, g2, g3, _⟩ := h enc W n cs' y h3
      refine ⟨cs', h4, fun j hj => ?_, g2, g3⟩
      have h6 := h5 j hj
      have hj' : j < cs'.length := by omega
      rw [List.getElem?_eq_getElem hj'] at h6
      rw [List.getElem?_eq_getElem hj']
      rw [addr_add, addr_add] at h6
      obtain ⟨_, full', h7, h8⟩ := sigW_cell h6
      simp only at h7 h8
      rw [q7] at h7; cases h7
      rw [← h8]; congr 1; omega)
    obtain ⟨as, ha1, ha2⟩ := chooseL (n := len) (p := fun i (al : α) => side al ∧ ∀ vs, vss[i]? = some vs → relL (sigW W) [] (S al) vs) (fun i hi => by
      obtain ⟨_, _, _, al, h1, h2⟩ := hv2 i _ (List.getElem?_eq_getElem (show i < vss.length by omega))
      exact ⟨al, h1, fun vs hvs => by rw [List.getElem?_eq_getElem (show i < vss.length by omega)] at hvs; cases hvs; exact h2⟩)
    refine ⟨as, ⟨by rw [ha1]; omega, fun al hal => ?_⟩, relL_cons.2 ⟨?_, by simp [relL]⟩⟩
    · obtain ⟨i, hi⟩ := List.getElem?_of_mem hal
      exact (ha2 i al hi).1
    · simp only [rel]
      have hrel : relLL (sigW W) (as.map S) vss := relLL_of (by simp [ha1, hv1]) (fun i r vs h1 h2 => by
        rw [List.getElem?_map] at h1
        cases hal : as[i]? with
        | none => rw [hal] at h1; cases h1
        | some al => rw [hal] at h1; cases h1; exact (ha2 i al hal).2 vs h2)
      refine ⟨some ⟨b, off, none⟩, cap, vss, by simp [ha1], by simp [ha1, hl], hrel, ?_, .inr ⟨b, off, rfl, ?_, ?_⟩⟩
      · intro r hr
        obtain ⟨i, hi⟩ := List.getElem?_of_mem hr
        obtain ⟨v, hv, hvr⟩ := relLL_get hrel hi
        rw [← relL_length hvr]; exact (hv2 i v hv).1
      · intro v hv
        obtain ⟨vs, h1, h2⟩ := List.mem_flatten.1 hv
        obtain ⟨i, hi⟩ := List.getElem?_of_mem h1
        exact (hv2 i vs hi).2.2.1 v h2
      · obtain ⟨pre, post, h1, rfl⟩ := rows_in (cs := full) (off := off) (esz := P.cellsOf e) hv1 (fun i vs hi => ⟨(hv2 i vs hi).1, (hv2 i vs hi).2.1⟩)
        refine ⟨full.take off, post, ?_, ?_⟩
        · rw [q7, List.append_assoc, ← h1, List.take_append_drop]
        · have := (hv2 0 _ (List.getElem?_eq_getElem (show 0 < vss.length by omega))).2.1 0 he
          rw [List.getElem?_eq_getElem (show 0 < (vss[0]'(by omega)).length by rw [(hv2 0 _ (List.getElem?_eq_getElem (show 0 < vss.length by omega))).1]; exact he)] at this
          have hlt := lt_of_get? this
          rw [List.length_take]; omega

/-! ### structs -/
def OpensF (P : Program) (fs : List Field) (off : Nat) {α : Type} (S : α → List SV) (side : α → Prop) : Prop :=
  ∀ {H : Type} (enc : TypeId × Value → H) (W : World) (fuel : Nat) (cs : List Value) (xs : List (DataW H × List MemPlace)), xs.length = fs.length →
    (∀ (i : Nat) (f : Field), fs[i]? = some f → DataW.trod enc P W 0 (fun _ => true) true fuel f.type ((cs.drop f.offset).take (P.cellsOf f.type)) = xs[i]?) →
    cs.length = off + (fs.map fun f => P.cellsOf f.type).sum →
    (∀ v ∈ cs.drop off, scalar v = true) ∧ (∃ a, side a ∧ relL (sigW W) [] (S a) (cs.drop off)) ∧
    (∀ (i : Nat) (f : Field), fs[i]? = some f → DataW.trod enc P W 0 (fun b => decide (b < W.heap.size)) true fuel f.type ((cs.drop f.offset).take (P.cellsOf f.type)) = xs[i]?)
theorem opensF_nil {P : Program} {off : Nat} : OpensF P [] off (fun _ : Unit => []) (fun _ => True) := by
  intro H enc W fuel cs xs hx _ hl
  have : cs.drop off = [] := by simp at hl; simp; omega
  rw [this]
  exact ⟨by simp, ⟨(), trivial, by simp [relL]⟩, fun i f h => by simp at h⟩
theorem opensF_cons {P : Program} {f : Field} {fs : List Field} {off : Nat} {α β : Type} {S : α → List SV} {side : α → Prop} {S' : β → List SV} {side' : β → Prop}
    (hf : f.offset = off) (h : Opens P f.type S side) (h' : OpensF P fs (off + P.cellsOf f.type) S' side') :
    OpensF P (f :: fs) off (fun x : α × β => S x.1 ++ S' x.2) (fun x => side x.1 ∧ side' x.2) := by
  intro H enc W fuel cs xs hx hr hl
  match xs, hx with
  | x :: xs, hx =>
    have h0 := hr 0 f (by simp)
    simp only [List.getElem?_cons_zero] at h0
    obtain ⟨g1, g2, ⟨a, g3, g4⟩, g5⟩ := h enc W fuel _ x h0
    simp only [List.map_cons, List.sum_cons] at hl
    obtain ⟨k1, ⟨b, k2, k3⟩, k4⟩ := h' enc W fuel cs xs (by simpa using hx) (fun i f' hi => by simpa using hr (i + 1) f' (by simpa using hi)) (by omega)
    have e : cs.drop off = (cs.drop f.offset).take (P.cellsOf f.type) ++ cs.drop (off + P.cellsOf f.type) := by
      rw [hf, ← List.drop_drop, List.take_append_drop]
    refine ⟨fun v hv => ?_, ⟨(a, b), ⟨g3, k2⟩, ?_⟩, fun i f' hi => ?_⟩
    · rw [e, List.mem_append] at hv
      rcases hv with hv | hv
      · exact g2 v hv
      · exact k1 v hv
    · rw [e]; exact relL_append g4 k3
    · cases i with
      | zero => simp at hi; subst hi; simpa using g5
      | succ i => simpa using k4 i f' (by simpa using hi)
theorem opens_struct {P : Program} {t : TypeId} {fs : List Field} {α : Type} {S : α → List SV} {side : α → Prop} (ht : P.underlying t = some (.struct fs.toArray)) (hc : P.cellsOf t = (fs.map fun f => P.cellsOf f.type).sum) (h : OpensF P fs 0 S side) :
    Opens P t S side := by
  intro H enc W fuel cs x hx
  obtain ⟨xs, n, rfl, rfl, h1, h2, h3⟩ := DataW.trod_struct ht hx
  obtain ⟨k1, k2, k3⟩ := h enc W n cs xs (by simpa using h2) (fun i f hi => h3 i f (by simpa using hi)) (by omega)
  rw [List.drop_zero] at k1 k2
  refine ⟨h1, k1, k2, ?_⟩
  rw [DataW.trod_step]
  unfold DataW.trodStep
  simp only [ht]
  have m : ∀ (l : List Field) (ys : List (DataW H × List MemPlace)), ys.length = l.length → (∀ (i : Nat) (f : Field), l[i]? = some f → DataW.trod enc P W 0 (fun b => decide (b < W.heap.size)) true n f.type ((cs.drop f.offset).take (P.cellsOf f.type)) = ys[i]?) →
      l.mapM (fun f => DataW.trod enc P W 0 (fun b => decide (b < W.heap.size)) true n f.type ((cs.drop f.offset).take (P.cellsOf f.type))) = some ys := by
    intro l
    induction l with
    | nil => intro ys hy _; rw [List.length_eq_zero_iff.1 hy]; rfl
    | cons f l ih =>
      intro ys hy hq
      match ys, hy with
      | y :: ys, hy =>
        rw [List.mapM_cons, hq 0 f (by simp), ih ys (by simpa using hy) (fun i f' hi => by simpa using hq (i + 1) f' (by simpa using hi))]
        rfl
  rw [m fs xs (by simpa using h2) k3]
  split <;> simp_all
end Go.Sx
