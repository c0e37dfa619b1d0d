/-
  A text of the proofs of this seat: lemmas that the statements' proofs use; it states nothing of the program by itself beyond the contracts that its theorems bear. Conditions: those that stand in each theorem. Its short name: Sx2.
-/
import Derived.Test.YtppdpfaipkjpmaaSx1
import Derived.Laws.Append
import Derived.Laws.World
import Derived.Laws.OwnMore
set_option linter.unusedVariables false
set_option linter.unusedSimpArgs false
namespace Go.Sx

inductive Chunk where
  | box (cells : List SV)
  | vec (esz : Nat) (rows : List (List SV))
  | fro (esz : Nat) (rows : List (List SV))
  | frb (cells : List SV)
  | dead
def live : Chunk → Bool
  | .box _ | .vec _ _ => true
  | _ => false

def Blk (w : World) (b : Nat) (cs : List Value) : Prop := ∃ T fz, w.heap[b]? = some (.cells cs.toArray T fz)
def OBlk (w : World) (b : Nat) (cs : List Value) : Prop := (∀ v ∈ cs, scalar v = true) ∧ ∃ T, w.heap[b]? = some (.cells cs.toArray T (0, 0))
theorem OBlk.blk {w b cs} (h : OBlk w b cs) : Blk w b cs := by obtain ⟨hs, T, h⟩ := h; exact ⟨T, _, h⟩
theorem lt_of_get {w : World} {b : Nat} {o : Obj} (h : w.heap[b]? = some o) : b < w.heap.size := by
  rcases Nat.lt_or_ge b w.heap.size with h' | h'
  · exact h'
  · rw [Array.getElem?_eq_none h'] at h; cases h
theorem Blk.lt {w : World} {b cs} (h : Blk w b cs) : b < w.heap.size := by
  obtain ⟨T, fz, h⟩ := h; exact lt_of_get h

def chunkOK (w : World) (σ : PH) (β : List HB) : Chunk → HB → Prop
  | .box cells, x => ∃ b vs, x.blk = some b ∧ σ b = none ∧ OBlk w b vs ∧ relL σ β cells vs
  | .vec esz rows, x => x.esz = esz ∧ x.len = rows.length ∧ (∀ r ∈ rows, r.length = esz) ∧
      ((x.blk = none ∧ rows = [] ∧ x.cap = 0) ∨
       ∃ b vss rest, x.blk = some b ∧ σ b = none ∧ OBlk w b (vss.flatten ++ rest) ∧ relLL σ rows vss ∧ rows.length ≤ x.cap ∧
         vss.flatten.length + rest.length = x.cap * esz)
  | .fro esz rows, x => x.len = rows.length ∧ rel σ [] (.psl esz rows) x.slice
  | .frb cells, x => ∃ b vs, x.blk = some b ∧ relL σ [] cells vs ∧ At σ b 0 vs
  | .dead, _ => True

structure HeapOK (w : World) (σ : PH) (β : List HB) (own : List Chunk) : Prop where
  ph : ∀ b cs, σ b = some cs → Blk w b cs
  len : β.length = own.length
  ok : ∀ (h : Nat) (c : Chunk) (x : HB), own[h]? = some c → β[h]? = some x → chunkOK w σ β c x
  lt : ∀ (h : Nat) (x : HB) (b : Nat), β[h]? = some x → x.blk = some b → b < w.heap.size
  apart : ∀ (h h' : Nat) (c c' : Chunk) (x x' : HB) (b : Nat), own[h]? = some c → own[h']? = some c' → live c = true → live c' = true → β[h]? = some x → β[h']? = some x' → x.blk = some b → x'.blk = some b → h = h'

structure Fr (w0 : World) (σ0 : PH) (β0 : List HB) (w : World) (σ : PH) (β : List HB) : Prop where
  os : w.os = w0.os
  tape : w.tape = w0.tape
  output : w.output = w0.output
  size : w0.heap.size ≤ w.heap.size
  block : ∀ b, b < w0.heap.size → (∀ (h : Nat) (x : HB), β0[h]? = some x → x.blk ≠ some b) → w.heap[b]? = w0.heap[b]?
  le : PH.le σ0 σ
  new : ∀ b cs, σ b = some cs → b < w0.heap.size → σ0 b = some cs
  pre : HB.le β0 β
  fresh : ∀ (h : Nat) (x : HB) (b : Nat), β[h]? = some x → β0.length ≤ h → x.blk = some b → w0.heap.size ≤ b

theorem Fr.refl (w : World) (σ : PH) (β : List HB) : Fr w σ β w σ β :=
  ⟨rfl, rfl, rfl, Nat.le_refl _, fun _ _ _ => rfl, PH.le.refl _, fun _ _ h _ => h, HB.le.refl _, fun h x b e hl _ => by
    rw [List.getElem?_eq_none hl] at e; cases e⟩

/-! ### cells of a block -/
theorem cell_seg {w : World} {b off : Nat} {pre vs post : List Value} (h : Blk w b (pre ++ vs ++ post)) (hp : pre.length = off) (j : Nat) (v : Value)
    (hj : vs[j]? = some v) : w.cell? ((⟨b, off, none⟩ : Addr).add j) = some v := by
  obtain ⟨T, fz, h⟩ := h
  have hlt : j < vs.length := by
    rcases Nat.lt_or_ge j vs.length with h' | h'
    · exact h'
    · rw [List.getElem?_eq_none h'] at hj; cases hj
  have key : ((pre ++ vs ++ post).toArray)[off + j]? = some v := by
    simp only [List.getElem?_toArray, List.append_assoc]
    rw [List.getElem?_append_right (by omega), show off + j - pre.length = j by omega, List.getElem?_append_left hlt, hj]
  unfold Addr.add
  split
  · rename_i h0; subst h0
    simp only [World.cell?, h, Option.isSome_none]
    simpa using key
  · simp only [World.cell?, h, Option.isSome_none]
    simpa using key

theorem run_loadSeg {P : Program} {w : World} {b off n : Nat} {pre vs post : List Value} (h : Blk w b (pre ++ vs ++ post)) (hp : pre.length = off) (hn : vs.length = n) :
    (loadCells ⟨b, off, none⟩ n).run P w = .ok vs.toArray w := by
  subst hn
  exact run_loadCells_list w _ vs (fun j v hj => cell_seg h hp j v hj)

def put (w : World) (b : Nat) (o : Obj) : World := { w with heap := w.heap.setIfInBounds b o }
@[simp] theorem put_size (w : World) (b o) : (put w b o).heap.size = w.heap.size := by simp [put]
theorem put_get_same {w : World} {b : Nat} {o : Obj} (h : b < w.heap.size) : (put w b o).heap[b]? = some o := by simp [put, h]
theorem put_get_ne {w : World} {b k : Nat} {o : Obj} (h : k ≠ b) : (put w b o).heap[k]? = w.heap[k]? := by
  simp only [put]; rw [Array.getElem?_setIfInBounds_ne (Ne.symm h)]

theorem run_store1 {P : Program} {w : World} {b off j : Nat} {T : TypeId} {pre post : List Value} {old v : Value} (hb : w.heap[b]? = some (.cells (pre ++ old :: post).toArray T (0, 0)))
    (hp : pre.length = off + j) (hv : scalar v = true) :
    (store ((⟨b, off, none⟩ : Addr).add j) v).run P w = .ok () (put w b (.cells (pre ++ v :: post).toArray T (0, 0))) := by
  have hblt : b < w.heap.size := lt_of_get hb
  have haddr : ((⟨b, off, none⟩ : Addr).add j) = ⟨b, off + j, none⟩ := by
    unfold Addr.add; split
    · rename_i h; subst h; rfl
    · rfl
  rw [haddr]
  have hc : w.cell? ⟨b, off + j, none⟩ = some old := by
    simp only [World.cell?, hb, Option.isSome_none, Bool.false_eq_true, if_false, List.getElem?_toArray]
    rw [← hp]; simp
  have hf : w.frozen? ⟨b, off + j, none⟩ = false := by
    simp only [World.frozen?, hb]; simp
  have hset : w.setCell ⟨b, off + j, none⟩ v = put w b (.cells (pre ++ v :: post).toArray T (0, 0)) := by
    simp only [World.setCell, put]
    congr 1
    apply Array.ext_getElem?
    intro i
    rw [Array.getElem?_modify, Array.getElem?_setIfInBounds]
    by_cases hi : b = i
    · subst hi
      rw [if_pos rfl, if_pos rfl, if_pos hblt, hb]
      simp only [Option.map_some, Option.isSome_none]
      congr 2
      simp [← hp]
    · rw [if_neg hi, if_neg hi]
  unfold store
  cases v <;> first | (simp [scalar] at hv; done) | (simp only [Sem.run, hc, hf, hset]; rfl)

theorem put_put (w : World) (b : Nat) (o o' : Obj) : put (put w b o) b o' = put w b o' := by simp [put]

theorem run_storeSeg {P : Program} {b off : Nat} {T : TypeId} {post : List Value} : ∀ (vs old pre : List Value) (w : World) (j : Nat),
    w.heap[b]? = some (.cells (pre ++ old ++ post).toArray T (0, 0)) → pre.length = off + j → old.length = vs.length → (∀ v ∈ vs, scalar v = true) →
    (storeCells ⟨b, off, none⟩ vs j).run P w = .ok () (put w b (.cells (pre ++ vs ++ post).toArray T (0, 0)))
  | [], old, pre, w, j, hb, hp, hl, _ => by
    have : old = [] := List.length_eq_zero_iff.1 (by simpa using hl)
    subst this
    simp only [storeCells, Sem.run_pure]
    congr 1
    simp only [put]
    have hblt : b < w.heap.size := lt_of_get hb
    have : w.heap.setIfInBounds b (.cells (pre ++ [] ++ post).toArray T (0, 0)) = w.heap := by
      apply Array.ext_getElem?
      intro i
      rw [Array.getElem?_setIfInBounds]
      by_cases hi : b = i
      · subst hi; rw [if_pos rfl, if_pos hblt, hb]
      · rw [if_neg hi]
    rw [this]
  | v :: vs, old, pre, w, j, hb, hp, hl, hs => by
    cases old with
    | nil => simp at hl
    | cons o old =>
      have hb' : w.heap[b]? = some (.cells (pre ++ o :: (old ++ post)).toArray T (0, 0)) := by simpa using hb
      have h1 := run_store1 (P := P) hb' hp (hs v (by simp))
      have hblt : b < w.heap.size := lt_of_get hb
      have ih := run_storeSeg (P := P) (b := b) (off := off) (T := T) (post := post) vs old (pre ++ [v]) (put w b (.cells (pre ++ v :: (old ++ post)).toArray T (0, 0))) (j + 1)
        (by rw [put_get_same hblt]; simp) (by simp; omega) (by simpa using hl) (fun u hu => hs u (by simp [hu]))
      rw [storeCells]
      simp only [Sem.run_bind, h1, Result.andThen_ok, ih, put_put]
      simp

/-! ### steps of the heap relation -/
theorem chunkOK.step {w w' : World} {σ σ' : PH} {β β' : List HB} (hs : PH.le σ σ') (hb : HB.le β β') (hn : ∀ b, b < w.heap.size → σ b = none → σ' b = none) :
    ∀ {c : Chunk} {x : HB}, chunkOK w σ β c x → (live c = true → ∀ b, x.blk = some b → w'.heap[b]? = w.heap[b]?) → chunkOK w' σ' β' c x
  | .box cells, x, h, hw => by
    have hw := hw rfl
    obtain ⟨b, vs, e, hσ, hO, hr⟩ := h
    refine ⟨b, vs, e, hn b hO.blk.lt hσ, ?_, relL.mono hs hb _ _ hr⟩
    obtain ⟨hs, T, hO⟩ := hO; exact ⟨hs, T, by rw [hw b e]; exact hO⟩
  | .vec esz rows, x, h, hw => by
    have hw := hw rfl
    obtain ⟨h1, h2, h3, h4⟩ := h
    refine ⟨h1, h2, h3, ?_⟩
    rcases h4 with h4 | ⟨b, vss, rest, e, hσ, hO, hr, hc, hl⟩
    · exact .inl h4
    · refine .inr ⟨b, vss, rest, e, hn b hO.blk.lt hσ, ?_, relLL.mono hs _ _ hr, hc, hl⟩
      obtain ⟨hs, T, hO⟩ := hO; exact ⟨hs, T, by rw [hw b e]; exact hO⟩
  | .fro esz rows, x, h, _ => ⟨h.1, rel.mono hs (HB.le.refl _) _ _ h.2⟩
  | .frb cells, x, h, _ => by
    obtain ⟨b, vs, e, hr, hat⟩ := h
    exact ⟨b, vs, e, relL.mono hs (HB.le.refl _) _ _ hr, hat.mono hs⟩
  | .dead, _, _, _ => trivial

theorem heap_alloc_lt (w : World) (o : Obj) {b : Nat} (h : b < w.heap.size) : (w.alloc o).heap[b]? = w.heap[b]? := by
  show (w.heap.push o)[b]? = _
  rw [Array.getElem?_push, if_neg (by omega)]
theorem heap_alloc_new (w : World) (o : Obj) : (w.alloc o).heap[w.heap.size]? = some o := by
  show (w.heap.push o)[w.heap.size]? = _
  rw [Array.getElem?_push, if_pos rfl]

theorem HeapOK.drew {w σ β own} (H : HeapOK w σ β own) : HeapOK w.drew σ β own :=
  ⟨H.ph, H.len, H.ok, H.lt, H.apart⟩
theorem Fr.drew {w0 σ0 β0 w σ β} (F : Fr w0 σ0 β0 w σ β) : Fr w0 σ0 β0 w.drew σ β :=
  ⟨F.os, F.tape, F.output, F.size, F.block, F.le, F.new, F.pre, F.fresh⟩

theorem getElem?_snoc {α : Type} {l : List α} {a : α} {i : Nat} {y : α} (h : (l ++ [a])[i]? = some y) : (i < l.length ∧ l[i]? = some y) ∨ (i = l.length ∧ y = a) := by
  rcases Nat.lt_trichotomy i l.length with h1 | h1 | h1
  · exact .inl ⟨h1, by rwa [List.getElem?_append_left h1] at h⟩
  · subst h1; simp at h; exact .inr ⟨rfl, h.symm⟩
  · rw [List.getElem?_eq_none (by simp; omega)] at h; cases h

/- a new block of any kind, which nobody owns -/
theorem HeapOK.alloc {w σ β own} (H : HeapOK w σ β own) (o : Obj) : HeapOK (w.alloc o) σ β own where
  ph b cs h := by
    have := (H.ph b cs h); have hl := this.lt
    obtain ⟨T, fz, e⟩ := this
    exact ⟨T, fz, by rw [heap_alloc_lt w o hl]; exact e⟩
  len := H.len
  ok h c x hc hx := chunkOK.step (PH.le.refl _) (HB.le.refl _) (fun _ _ h => h) (H.ok h c x hc hx) (fun _ b hb => heap_alloc_lt w o (H.lt h x b hx hb))
  lt h x b hx hb := by have := H.lt h x b hx hb; simp; omega
  apart := H.apart
theorem Fr.alloc {w0 σ0 β0 w σ β} (F : Fr w0 σ0 β0 w σ β) (o : Obj) : Fr w0 σ0 β0 (w.alloc o) σ β :=
  ⟨F.os, F.tape, F.output, by have := F.size; simp; omega, fun b hb hn => by
    rw [heap_alloc_lt w o (by have := F.size; omega)]; exact F.block b hb hn, F.le, F.new, F.pre, F.fresh⟩

/- a new handle -/
theorem HeapOK.push {w σ β own} (H : HeapOK w σ β own) {c : Chunk} {x : HB} (hc : chunkOK w σ (β ++ [x]) c x)
    (hlt : ∀ b, x.blk = some b → b < w.heap.size) (hnew : ∀ (h : Nat) (y : HB) (b : Nat), β[h]? = some y → y.blk = some b → x.blk ≠ some b) :
    HeapOK w σ (β ++ [x]) (own ++ [c]) where
  ph := H.ph
  len := by simp [H.len]
  ok h c' y hc' hy := by
    rcases getElem?_snoc hc' with ⟨h1, h2⟩ | ⟨h1, rfl⟩
    · rcases getElem?_snoc hy with ⟨h3, h4⟩ | ⟨h3, rfl⟩
      · exact chunkOK.step (PH.le.refl _) (HB.le_append _ _) (fun _ _ h => h) (H.ok h c' y h2 h4) (fun _ _ _ => rfl)
      · have := H.len; omega
    · rcases getElem?_snoc hy with ⟨h3, h4⟩ | ⟨h3, rfl⟩
      · have := H.len; omega
      · exact hc
  lt h y b hy hb := by
    rcases getElem?_snoc hy with ⟨h3, h4⟩ | ⟨h3, rfl⟩
    · exact H.lt h y b h4 hb
    · exact hlt b hb
  apart h h' d d' y y' b hd hd' hl hl' hy hy' hb hb' := by
    have hlen := H.len
    rcases getElem?_snoc hy with ⟨h3, h4⟩ | ⟨h3, rfl⟩
    · rcases getElem?_snoc hy' with ⟨h5, h6⟩ | ⟨h5, rfl⟩
      · rw [List.getElem?_append_left (by omega)] at hd hd'
        exact H.apart h h' d d' y y' b hd hd' hl hl' h4 h6 hb hb'
      · exact (hnew h y b h4 hb hb').elim
    · rcases getElem?_snoc hy' with ⟨h5, h6⟩ | ⟨h5, rfl⟩
      · exact (hnew h' y' b h6 hb' hb).elim
      · omega
theorem Fr.push {w0 σ0 β0 w σ β} (F : Fr w0 σ0 β0 w σ β) {x : HB} (hx : ∀ b, x.blk = some b → w0.heap.size ≤ b) : Fr w0 σ0 β0 w σ (β ++ [x]) :=
  ⟨F.os, F.tape, F.output, F.size, F.block, F.le, F.new, F.pre.trans (HB.le_append _ _), fun h y b hy hl hb => by
    rcases getElem?_snoc hy with ⟨h3, h4⟩ | ⟨h3, rfl⟩
    · exact F.fresh h y b h4 hl hb
    · exact hx b hb⟩

/- a write into the block of one handle; the binding stays -/
theorem HeapOK.write {w σ β own} (H : HeapOK w σ β own) {h : Nat} {x : HB} {b : Nat} {c c' : Chunk} {o : Obj} (hx : β[h]? = some x) (hb : x.blk = some b)
    (hc : own[h]? = some c) (hlv : live c = true) (hσ : σ b = none) (hc' : chunkOK (put w b o) σ β c' x) : HeapOK (put w b o) σ β (own.set h c') where
  ph k cs hk := by
    have hne : k ≠ b := by rintro rfl; rw [hσ] at hk; cases hk
    obtain ⟨T, fz, e⟩ := H.ph k cs hk
    exact ⟨T, fz, by rw [put_get_ne hne]; exact e⟩
  len := by simp [H.len]
  ok i c y hci hy := by
    rw [List.getElem?_set] at hci
    by_cases hi : h = i
    · subst hi
      rw [hx] at hy; cases hy
      split at hci
      · split at hci
        · cases hci; exact hc'
        · cases hci
      · exact absurd rfl (by assumption)
    · rw [if_neg hi] at hci
      refine chunkOK.step (PH.le.refl _) (HB.le.refl _) (fun _ _ h => h) (H.ok i _ y hci hy) (fun hl k hk => put_get_ne ?_)
      rintro rfl
      exact hi (H.apart h i _ _ x y k hc hci hlv hl hx hy hb hk)
  lt i y k hy hk := by have := H.lt i y k hy hk; simpa using this
  apart i j d d' y z k hd hd' hl hl' hy hz hk hk' := by
    have key : ∀ (i : Nat) (d : Chunk), (own.set h c')[i]? = some d → live d = true → ∃ d0, own[i]? = some d0 ∧ live d0 = true := by
      intro i d hd hl
      by_cases hi : h = i
      · subst hi; exact ⟨c, hc, hlv⟩
      · rw [List.getElem?_set_ne hi] at hd; exact ⟨d, hd, hl⟩
    obtain ⟨e1, q1, q2⟩ := key i d hd hl
    obtain ⟨e2, q3, q4⟩ := key j d' hd' hl'
    exact H.apart i j e1 e2 y z k q1 q3 q2 q4 hy hz hk hk'
theorem Fr.write {w0 σ0 β0 w σ β} (F : Fr w0 σ0 β0 w σ β) {h : Nat} {x : HB} {b : Nat} {o : Obj} (hx : β[h]? = some x) (hb : x.blk = some b) : Fr w0 σ0 β0 (put w b o) σ β :=
  ⟨F.os, F.tape, F.output, by simpa using F.size, fun k hk hn => by
    rw [put_get_ne]
    · exact F.block k hk hn
    · rintro rfl
      rcases Nat.lt_or_ge h β0.length with h1 | h1
      · have h2 : β0[h]? = some β0[h] := List.getElem?_eq_getElem h1
        have := F.pre h _ h2
        rw [hx] at this; cases this
        exact hn h _ h2 hb
      · have := F.fresh h x k hx h1 hb; omega, F.le, F.new, F.pre, F.fresh⟩
end Go.Sx
