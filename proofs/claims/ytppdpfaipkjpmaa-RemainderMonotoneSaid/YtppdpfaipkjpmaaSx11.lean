/-
  A text of the proofs of this seat: lemmas that the statements' proofs use; it states nothing of the program by itself beyond the contracts that its theorems bear. Conditions: those that stand in each theorem. Its short name: Sx11.
-/
import Derived.Test.YtppdpfaipkjpmaaSx10
set_option linter.unusedVariables false
set_option linter.unusedSimpArgs false
namespace Go.Sx

/-! ### weakening -/
mutual
def bnd (n : Nat) : SV → Bool
  | .vec h => Nat.ble (h + 1) n
  | .ptr h _ => Nat.ble (h + 1) n
  | .elt h _ _ => Nat.ble (h + 1) n
  | .agg l => bndL n l
  | .tup l => bndL n l
  | .fn _ l => bndL n l
  | _ => true
def bndL (n : Nat) : List SV → Bool
  | [] => true
  | s :: l => bnd n s && bndL n l
end
def bndO (n : Nat) : List Chunk → Bool
  | [] => true
  | .box l :: cs => bndL n l && bndO n cs
  | _ :: cs => bndO n cs
theorem bndO_at {n : Nat} : ∀ {cs : List Chunk} {i : Nat} {l : List SV}, bndO n cs = true → cs[i]? = some (.box l) → bndL n l = true
  | [], i, l, _, h => by simp at h
  | c :: cs, i, l, hb, h => by
    cases i with
    | zero => simp at h; subst h; simp only [bndO, Bool.and_eq_true] at hb; exact hb.1
    | succ i =>
      simp at h
      refine bndO_at (cs := cs) ?_ h
      cases c <;> simp only [bndO, Bool.and_eq_true] at hb <;> first | exact hb | exact hb.2
mutual
theorem rel_bnd {σ} {β : List HB} {n : Nat} : ∀ (s : SV) (v : Value), bnd n s = true → rel σ β s v → rel σ (β.take n) s v
  | .vec h, v, hb, hr => by simp only [rel, bnd] at *; obtain ⟨x, hx, e⟩ := hr; exact ⟨x, by rw [List.getElem?_take_of_lt (Nat.le_of_ble_eq_true hb)]; exact hx, e⟩
  | .ptr h o, v, hb, hr => by simp only [rel, bnd] at *; obtain ⟨x, b, hx, e⟩ := hr; exact ⟨x, b, by rw [List.getElem?_take_of_lt (Nat.le_of_ble_eq_true hb)]; exact hx, e⟩
  | .elt h i o, v, hb, hr => by simp only [rel, bnd] at *; obtain ⟨x, b, hx, e⟩ := hr; exact ⟨x, b, by rw [List.getElem?_take_of_lt (Nat.le_of_ble_eq_true hb)]; exact hx, e⟩
  | .agg l, v, hb, hr => by simp only [rel, bnd] at *; obtain ⟨vs, e, hr⟩ := hr; exact ⟨vs, e, relL_bnd l vs hb hr⟩
  | .tup l, v, hb, hr => by simp only [rel, bnd] at *; obtain ⟨vs, e, hr⟩ := hr; exact ⟨vs, e, relL_bnd l vs hb hr⟩
  | .fn f l, v, hb, hr => by simp only [rel, bnd] at *; obtain ⟨vs, e, hr⟩ := hr; exact ⟨vs, e, relL_bnd l vs hb hr⟩
  | .any, _, _, _ => by simp [rel]
  | .num _ _, _, _, h | .bp _, _, _, h | .bl _, _, _, h | .str _, _, _, h | .nil, _, _, h | .raw _, _, _, h | .psl _ _, _, _, h | .pptr _, _, _, h | .shut _, _, _, h => by simpa only [rel] using h
theorem relL_bnd {σ} {β : List HB} {n : Nat} : ∀ (l : List SV) (vs : List Value), bndL n l = true → relL σ β l vs → relL σ (β.take n) l vs
  | [], vs, _, h => by simpa only [relL] using h
  | s :: l, vs, hb, hr => by
    simp only [relL, bndL, Bool.and_eq_true] at *
    obtain ⟨v, vs', e, h1, h2⟩ := hr
    exact ⟨v, vs', e, rel_bnd s v hb.1 h1, relL_bnd l vs' hb.2 h2⟩
end

theorem HeapOK.take {w σ β own} (H : HeapOK w σ β own) {n : Nat} (hb : bndO n (own.take n) = true) : HeapOK w σ (β.take n) (own.take n) where
  ph := H.ph
  len := by rw [List.length_take, List.length_take, H.len]
  ok i c x hc hx := by
    rw [List.getElem?_take] at hx hc
    split at hx
    · rename_i hi
      rw [if_pos hi] at hc
      have hck := H.ok i c x hc hx
      cases c with
      | box l =>
        obtain ⟨b, vs, e, hσ, hO, hr⟩ := hck
        exact ⟨b, vs, e, hσ, hO, relL_bnd _ _ (bndO_at (i := i) hb (by rw [List.getElem?_take_of_lt hi]; exact hc)) hr⟩
      | vec esz rows => exact hck
      | fro esz rows => exact hck
      | frb cells => exact hck
      | dead => trivial
    · cases hx
  lt i x b hx hb := by
    rw [List.getElem?_take] at hx
    split at hx
    · exact H.lt i x b hx hb
    · cases hx
  apart i j c c' x y b hc hc' hl hl' hx hy hb hb' := by
    rw [List.getElem?_take] at hx hy hc hc'
    split at hx <;> split at hy <;> first | (rename_i h1 h2; rw [if_pos h1] at hc; rw [if_pos h2] at hc'; exact H.apart i j c c' x y b hc hc' hl hl' hx hy hb hb') | cases hx | cases hy
theorem Fr.take {w0 σ0 β0 w σ β} (F : Fr w0 σ0 β0 w σ β) {n : Nat} (hn : β0.length ≤ n) : Fr w0 σ0 β0 w σ (β.take n) :=
  ⟨F.os, F.tape, F.output, F.size, F.block, F.le, F.new, fun i x hx => by
    have : i < β0.length := by
      rcases Nat.lt_or_ge i β0.length with h' | h'
      · exact h'
      · rw [List.getElem?_eq_none h'] at hx; cases hx
    rw [List.getElem?_take_of_lt (by omega)]; exact F.pre i x hx, fun i x b hx hl hb => by
    rw [List.getElem?_take] at hx
    split at hx
    · exact F.fresh i x b hx hl hb
    · cases hx⟩

/- a state told anew: handle i is what was handle hs[i] -/
def gets (hs : List Nat) (j : Nat) : Nat := (hs[j]?).getD 0
def LeT (ρ : Nat → Nat) (tm own : SS) : List (Nat × SV) → Prop
  | [] => True
  | (t, s) :: r => Imp (nrm own.own (tlook tm.tm t)) (ren ρ s) ∧ LeT ρ tm own r
def LeL (own : List Chunk) : List SV → List SV → Prop
  | [], [] => True
  | x :: xs, y :: ys => Imp (nrm own x) y ∧ LeL own xs ys
  | _, _ => False
theorem LeL.ok {w σ β own} (H : HeapOK w σ β own) : ∀ {l l' : List SV} {vs : List Value}, LeL own l l' → relL σ β l vs → relL σ β l' vs
  | [], [], _, _, h => h
  | [], _ :: _, _, h, _ => h.elim
  | _ :: _, [], _, h, _ => h.elim
  | x :: xs, y :: ys, vs, h, hr => by
    simp only [relL] at hr; obtain ⟨v, vs', rfl, h1, h2⟩ := hr
    exact relL_cons.2 ⟨h.1 _ _ _ (rel_nrm H _ _ h1), LeL.ok H h.2 h2⟩
def LeC (own : List Chunk) (ρ : Nat → Nat) (c c' : Chunk) : Prop :=
  match c, c' with
  | _, .dead => True
  | .box l, .box l' => LeL own l (renL ρ l')
  | .vec e r, .vec e' r' => e = e' ∧ r = r'
  | .fro e r, .fro e' r' => e = e' ∧ r = r'
  | .frb l, .frb l' => l = l'
  | _, _ => False
def LeO (own : List Chunk) (ρ : Nat → Nat) : List Nat → List Chunk → Prop
  | [], [] => True
  | h :: hs, c' :: cs => (match own[h]? with | some c => LeC own ρ c c' | none => False) ∧ LeO own ρ hs cs
  | _, _ => False
def firstN (n : Nat) : Nat → List Nat → Bool
  | i, h :: hs => match Nat.ble n i with | true => true | false => Nat.beq h i && firstN n (i + 1) hs
  | i, [] => Nat.ble n i
theorem firstN_ok {n : Nat} : ∀ {i : Nat} {hs : List Nat}, firstN n i hs = true → ∀ j, i + j < n → hs[j]? = some (i + j)
  | i, [], h, j, hj => by have := Nat.le_of_ble_eq_true h; omega
  | i, h :: hs, e, j, hj => by
    unfold firstN at e
    split at e
    · rename_i hb; have := Nat.le_of_ble_eq_true hb; omega
    · rw [Bool.and_eq_true] at e
      have := Nat.eq_of_beq_eq_true e.1; subst this
      cases j with
      | zero => simp
      | succ j => have := firstN_ok e.2 j (by omega); simp only [List.getElem?_cons_succ]; rw [this]; congr 1; omega
def bndT (n : Nat) : List (Nat × SV) → Bool
  | [] => true
  | (_, s) :: r => bnd n s && bndT n r
def okHs (n : Nat) (hs : List Nat) (S' : SS) : Bool := nodupB hs && firstN n 0 hs && Nat.ble n hs.length && bndT hs.length S'.tm && bndO hs.length S'.own
structure Le (n : Nat) (hs : List Nat) (S S' : SS) : Prop where
  bd : okHs n hs S' = true
  own : LeO S.own (gets hs) hs S'.own
  tm : LeT (gets hs) S S S'.tm
theorem LeO.at {own : List Chunk} {ρ : Nat → Nat} : ∀ {hs : List Nat} {cs : List Chunk}, LeO own ρ hs cs → cs.length = hs.length ∧ ∀ (i : Nat) (c' : Chunk), cs[i]? = some c' → ∃ h c, hs[i]? = some h ∧ own[h]? = some c ∧ LeC own ρ c c'
  | [], [], _ => by simp
  | [], _ :: _, h => h.elim
  | _ :: _, [], h => h.elim
  | h0 :: hs, c0 :: cs, hh => by
    obtain ⟨h1, h2⟩ := LeO.at hh.2
    refine ⟨by simp [h1], ?_⟩
    intro i c' hc
    cases i with
    | zero =>
      simp at hc; subst hc
      have := hh.1
      split at this
      · rename_i c hc; exact ⟨h0, c, by simp, hc, this⟩
      · exact this.elim
    | succ i => simp at hc; obtain ⟨h, c, q1, q2, q3⟩ := h2 i c' hc; exact ⟨h, c, by simpa using q1, q2, q3⟩
theorem LeT.at {ρ : Nat → Nat} {S S0 : SS} : ∀ {l : List (Nat × SV)}, LeT ρ S S0 l → ∀ t, tlook l t = .any ∨ (∃ s, tlook l t = s ∧ Imp (nrm S0.own (tlook S.tm t)) (ren ρ s))
  | [], _, t => .inl rfl
  | (k, s) :: r, h, t => by
    simp only [tlook]
    split
    · rename_i hb; have := Nat.eq_of_beq_eq_true hb; subst this; exact .inr ⟨s, rfl, h.1⟩
    · exact LeT.at h.2 t
theorem bndT_at {n : Nat} : ∀ {l : List (Nat × SV)} (t : Nat), bndT n l = true → bnd n (tlook l t) = true
  | [], t, _ => rfl
  | (k, s) :: r, t, h => by
    simp only [bndT, Bool.and_eq_true] at h
    simp only [tlook]
    split
    · exact h.1
    · exact bndT_at t h.2
mutual
theorem rel_unren {σ} {β β' : List HB} {ρ : Nat → Nat} {n : Nat} (hρ : ∀ (j : Nat) (x : HB), j < n → β[ρ j]? = some x → β'[j]? = some x) : ∀ (s : SV) (v : Value), bnd n s = true → rel σ β (ren ρ s) v → rel σ β' s v
  | .vec h, v, hb, hr => by simp only [rel, ren, bnd] at *; obtain ⟨x, hx, e⟩ := hr; exact ⟨x, hρ _ _ (Nat.le_of_ble_eq_true hb) hx, e⟩
  | .ptr h o, v, hb, hr => by simp only [rel, ren, bnd] at *; obtain ⟨x, b, hx, e⟩ := hr; exact ⟨x, b, hρ _ _ (Nat.le_of_ble_eq_true hb) hx, e⟩
  | .elt h i o, v, hb, hr => by simp only [rel, ren, bnd] at *; obtain ⟨x, b, hx, e⟩ := hr; exact ⟨x, b, hρ _ _ (Nat.le_of_ble_eq_true hb) hx, e⟩
  | .agg l, v, hb, hr => by simp only [rel, ren, bnd] at *; obtain ⟨vs, e, hr⟩ := hr; exact ⟨vs, e, relL_unren hρ l vs hb hr⟩
  | .tup l, v, hb, hr => by simp only [rel, ren, bnd] at *; obtain ⟨vs, e, hr⟩ := hr; exact ⟨vs, e, relL_unren hρ l vs hb hr⟩
  | .fn f l, v, hb, hr => by simp only [rel, ren, bnd] at *; obtain ⟨vs, e, hr⟩ := hr; exact ⟨vs, e, relL_unren hρ l vs hb hr⟩
  | .any, _, _, _ => by simp [rel]
  | .num _ _, _, _, h | .bp _, _, _, h | .bl _, _, _, h | .str _, _, _, h | .nil, _, _, h | .raw _, _, _, h | .psl _ _, _, _, h | .pptr _, _, _, h | .shut _, _, _, h => by simpa only [rel, ren] using h
theorem relL_unren {σ} {β β' : List HB} {ρ : Nat → Nat} {n : Nat} (hρ : ∀ (j : Nat) (x : HB), j < n → β[ρ j]? = some x → β'[j]? = some x) : ∀ (l : List SV) (vs : List Value), bndL n l = true → relL σ β (renL ρ l) vs → relL σ β' l vs
  | [], vs, _, h => by simpa only [relL, renL] using h
  | s :: l, vs, hb, hr => by
    simp only [relL, renL, bndL, Bool.and_eq_true] at *
    obtain ⟨v, vs', e, h1, h2⟩ := hr
    exact ⟨v, vs', e, rel_unren hρ s v hb.1 h1, relL_unren hρ l vs' hb.2 h2⟩
end

theorem GG.weak {w0 σ0 β0 nt σ β S S' a w} {hs : List Nat} (g : GG w0 σ0 β0 nt σ β S a w) (hpin : ∀ b, nt.pin b = none) (h : Le β0.length hs S S') : ∃ β', GG w0 σ0 β0 nt σ β' S' a w := by
  have hb := h.bd
  simp only [okHs, Bool.and_eq_true] at hb
  obtain ⟨⟨⟨⟨hnd, hfirst⟩, hn⟩, hbt⟩, hbo⟩ := hb
  have hnd := nodupB_ok hnd
  have hn := Nat.le_of_ble_eq_true hn
  obtain ⟨hlen, hat⟩ := LeO.at h.own
  have hol := g.hp.len
  let β' : List HB := hs.map fun h => (β[h]?).getD ⟨none, 0, 0, 0⟩
  have hβ' : ∀ (i : Nat) (x : HB), β'[i]? = some x → ∃ h, hs[i]? = some h ∧ β[h]? = some x := by
    intro i x hx
    simp only [β', List.getElem?_map] at hx
    cases hi : hs[i]? with
    | none => rw [hi] at hx; cases hx
    | some h =>
      rw [hi] at hx
      have hil : i < S'.own.length := by
        rw [hlen]
        rcases Nat.lt_or_ge i hs.length with h' | h'
        · exact h'
        · rw [List.getElem?_eq_none h'] at hi; cases hi
      obtain ⟨h', c, q1, q2, _⟩ := hat i _ (List.getElem?_eq_getElem hil)
      rw [hi] at q1; cases q1
      have hlt : h < β.length := by
        rw [hol]
        rcases Nat.lt_or_ge h S.own.length with h' | h'
        · exact h'
        · rw [List.getElem?_eq_none h'] at q2; cases q2
      simp only [Option.map_some, Option.some.injEq] at hx
      refine ⟨h, rfl, ?_⟩
      rw [List.getElem?_eq_getElem hlt] at hx ⊢
      simp only [Option.getD_some] at hx; rw [hx]
  have hρ : ∀ (j : Nat) (x : HB), j < hs.length → β[gets hs j]? = some x → β'[j]? = some x := by
    intro j x hj hx
    simp only [gets, List.getElem?_eq_getElem hj, Option.getD_some] at hx
    simp only [β', List.getElem?_map, List.getElem?_eq_getElem hj, Option.map_some, hx, Option.getD_some]
  refine ⟨β', ⟨?_, g.sz, g.df, ⟨g.hp.ph, ?_, ?_, ?_, ?_⟩, ⟨g.fr.os, g.fr.tape, g.fr.output, g.fr.size, g.fr.block, g.fr.le, g.fr.new, ?_, ?_⟩, ⟨g.pn.at_, fun _ _ b _ _ _ => hpin b⟩⟩⟩
  · intro t
    rcases LeT.at h.tm t with e | ⟨s, e, hi⟩
    · rw [e]; simp [rel]
    · rw [e]
      have hbs := bndT_at t hbt
      rw [e] at hbs
      exact rel_unren hρ _ _ hbs (hi _ _ _ (rel_nrm g.hp _ _ (g.tm t)))
  · simp [β', hlen]
  · intro i c' x hc hx
    obtain ⟨h0, hi, hxx⟩ := hβ' i x hx
    obtain ⟨h', c, q1, q2, q3⟩ := hat i c' hc
    rw [hi] at q1; cases q1
    have hck := g.hp.ok h0 c x q2 hxx
    unfold LeC at q3
    split at q3
    · trivial
    · obtain ⟨b, vs, e, hσ, hO, hr⟩ := hck
      exact ⟨b, vs, e, hσ, hO, relL_unren hρ _ _ (bndO_at hbo hc) (q3.ok g.hp hr)⟩
    · obtain ⟨rfl, rfl⟩ := q3; exact hck
    · obtain ⟨rfl, rfl⟩ := q3; exact hck
    · subst q3; exact hck
    · exact q3.elim
  · intro i x b hx hb
    obtain ⟨h0, hi, hxx⟩ := hβ' i x hx
    exact g.hp.lt h0 x b hxx hb
  · intro i j c c' x y b hc hc' hl hl' hx hy hb hb'
    obtain ⟨h0, hi, hxx⟩ := hβ' i x hx
    obtain ⟨h1, hj, hyy⟩ := hβ' j y hy
    obtain ⟨h0', d, q1, q2, q3⟩ := hat i c hc
    obtain ⟨h1', d', q1', q2', q3'⟩ := hat j c' hc'
    rw [hi] at q1; cases q1
    rw [hj] at q1'; cases q1'
    have lv : ∀ {d c : Chunk}, LeC S.own (gets hs) d c → live c = true → live d = true := by
      intro d c q hl
      cases c <;> cases d <;> simp only [LeC, live] at * <;> first | rfl | exact q.elim | cases hl
    have := g.hp.apart h0 h1 d d' x y b q2 q2' (lv q3 hl) (lv q3' hl') hxx hyy hb hb'
    subst this
    have l1 : i < hs.length := by
      rcases Nat.lt_or_ge i hs.length with h' | h'
      · exact h'
      · rw [List.getElem?_eq_none h'] at hi; cases hi
    exact (List.getElem?_inj l1 hnd).1 (hi.trans hj.symm)
  · intro i x hx
    have hil : i < β0.length := by
      rcases Nat.lt_or_ge i β0.length with h' | h'
      · exact h'
      · rw [List.getElem?_eq_none h'] at hx; cases hx
    have := firstN_ok hfirst i (by omega)
    refine hρ i x (by omega) ?_
    simp only [gets, this, Option.getD_some, Nat.zero_add]
    exact g.fr.pre i x hx
  · intro i x b hx hl hb
    obtain ⟨h0, hi, hxx⟩ := hβ' i x hx
    refine g.fr.fresh h0 x b hxx ?_ hb
    rcases Nat.lt_or_ge h0 β0.length with h' | h'
    · have q := firstN_ok hfirst h0 (by omega)
      rw [Nat.zero_add] at q
      have l1 : h0 < hs.length := by omega
      have := (List.getElem?_inj l1 hnd).1 (q.trans hi.symm)
      omega
    · exact h'

/- one owned block becomes persistent -/
theorem GG.freeze {w0 σ0 β0 nt σ β S a w} (g : GG w0 σ0 β0 nt σ β S a w) {h b : Nat} {x : HB} {cs : List Value} {c0 c : Chunk} (hx : β[h]? = some x) (hb : x.blk = some b) (hσ : σ b = none) (hn : β0.length ≤ h) (hB : Blk w b cs)
    (hc0 : S.own[h]? = some c0) (hl0 : live c0 = true) (hlc : live c = false)
    (hc : chunkOK w (fun k => if k = b then some cs else σ k) β c x) :
    GG w0 σ0 β0 nt (fun k => if k = b then some cs else σ k) β ⟨S.tm, S.own.set h c⟩ a w := by
  have hle : PH.le σ (fun k => if k = b then some cs else σ k) := by
    intro k c hk
    have : k ≠ b := by rintro rfl; rw [hσ] at hk; cases hk
    simp only [if_neg this]; exact hk
  have hhl : h < S.own.length := by
    rcases Nat.lt_or_ge h S.own.length with h' | h'
    · exact h'
    · rw [List.getElem?_eq_none h'] at hc0; cases hc0
  refine ⟨g.tm.mono hle (HB.le.refl _), g.sz, g.df, ⟨?_, ?_, ?_, g.hp.lt, ?_⟩, ⟨g.fr.os, g.fr.tape, g.fr.output, g.fr.size, g.fr.block, g.fr.le.trans hle, ?_, g.fr.pre, g.fr.fresh⟩, g.pn⟩
  · intro k c hk
    by_cases hkb : k = b
    · subst hkb; simp at hk; subst hk; exact hB
    · simp only [if_neg hkb] at hk; exact g.hp.ph k c hk
  · simp [g.hp.len]
  · intro i d y hd hy
    by_cases hi : i = h
    · subst hi
      rw [List.getElem?_set_self hhl] at hd; cases hd
      rw [hx] at hy; cases hy; exact hc
    · rw [List.getElem?_set_ne (Ne.symm hi)] at hd
      have hck := g.hp.ok i d y hd hy
      have hnb : live d = true → ∀ b', y.blk = some b' → b' ≠ b := by rintro hl b' hb' rfl; exact hi (g.hp.apart i h d c0 y x b' hd hc0 hl hl0 hy hx hb' hb)
      cases d with
      | box l =>
        obtain ⟨b', vs, e, hσ', hO, hr⟩ := hck
        exact ⟨b', vs, e, by simp only [if_neg (hnb rfl b' e)]; exact hσ', hO, relL.mono hle (HB.le.refl _) _ _ hr⟩
      | vec esz rows =>
        obtain ⟨h1, h2, h3, h4⟩ := hck
        refine ⟨h1, h2, h3, ?_⟩
        rcases h4 with h4 | ⟨b', vss, rest, e, hσ', hO, hr, hc', hl⟩
        · exact .inl h4
        · exact .inr ⟨b', vss, rest, e, by simp only [if_neg (hnb rfl b' e)]; exact hσ', hO, relLL.mono hle _ _ hr, hc', hl⟩
      | fro esz rows => exact ⟨hck.1, rel.mono hle (HB.le.refl _) _ _ hck.2⟩
      | frb l => obtain ⟨b', vs, e, hr, hat⟩ := hck; exact ⟨b', vs, e, relL.mono hle (HB.le.refl _) _ _ hr, hat.mono hle⟩
      | dead => trivial
  · intro i j d d' y z k hd hd' hl hl' hy hz hk hk'
    have key : ∀ (i : Nat) (d : Chunk), (S.own.set h c)[i]? = some d → live d = true → S.own[i]? = some d := by
      intro i d hd hl
      by_cases hi : i = h
      · subst hi; rw [List.getElem?_set_self hhl] at hd; cases hd; rw [hlc] at hl; cases hl
      · rwa [List.getElem?_set_ne (Ne.symm hi)] at hd
    exact g.hp.apart i j d d' y z k (key i d hd hl) (key j d' hd' hl') hl hl' hy hz hk hk'
  · intro k c hk hlt
    by_cases hkb : k = b
    · subst hkb; have := g.fr.fresh h x k hx hn hb; omega
    · simp only [if_neg hkb] at hk; exact g.fr.new k c hk hlt

theorem relL_reset {σ β} {s' : SV} : ∀ {l : List SV} {vs : List Value} {i : Nat} {s : SV}, relL σ β l vs → l[i]? = some s → (∀ v, rel σ β s v → rel σ β s' v) → relL σ β (l.set i s') vs
  | [], vs, i, s, h, hi, _ => by simp at hi
  | x :: l, vs, 0, s, h, hi, hs => by
    simp at hi; subst hi
    simp only [relL] at h; obtain ⟨v, vs', rfl, h1, h2⟩ := h
    exact relL_cons.2 ⟨hs v h1, h2⟩
  | x :: l, vs, i + 1, s, h, hi, hs => by
    simp only [relL] at h; obtain ⟨v, vs', rfl, h1, h2⟩ := h
    exact relL_cons.2 ⟨h1, relL_reset h2 (by simpa using hi) hs⟩
theorem GG.reown {w0 σ0 β0 nt σ β S a w} (g : GG w0 σ0 β0 nt σ β S a w) {h : Nat} {c c' : Chunk} (hc : S.own[h]? = some c) (hl : live c' = live c) (hk : ∀ x, β[h]? = some x → chunkOK w σ β c' x) :
    GG w0 σ0 β0 nt σ β ⟨S.tm, S.own.set h c'⟩ a w := by
  have key : ∀ (i : Nat) (d : Chunk), (S.own.set h c')[i]? = some d → live d = true → ∃ d', S.own[i]? = some d' ∧ live d' = true := by
    intro i d hd hld
    by_cases hi : h = i
    · subst hi
      have hlt : h < S.own.length := by
        rcases Nat.lt_or_ge h S.own.length with h' | h'
        · exact h'
        · rw [List.getElem?_eq_none h'] at hc; cases hc
      rw [List.getElem?_set_self hlt] at hd; cases hd
      exact ⟨c, hc, by rw [← hl]; exact hld⟩
    · rw [List.getElem?_set_ne hi] at hd; exact ⟨d, hd, hld⟩
  refine ⟨g.tm, g.sz, g.df, ⟨g.hp.ph, by simp [g.hp.len], ?_, g.hp.lt, ?_⟩, g.fr, g.pn⟩
  · intro i d x hd hx
    by_cases hi : h = i
    · subst hi
      have hlt : h < S.own.length := by
        rcases Nat.lt_or_ge h S.own.length with h' | h'
        · exact h'
        · rw [List.getElem?_eq_none h'] at hc; cases hc
      rw [List.getElem?_set_self hlt] at hd; cases hd
      exact hk x hx
    · rw [List.getElem?_set_ne hi] at hd; exact g.hp.ok i d x hd hx
  · intro i j d d' y z k hd hd' hld hld' hy hz hk hk'
    obtain ⟨e, he, hle⟩ := key i d hd hld
    obtain ⟨e', he', hle'⟩ := key j d' hd' hld'
    exact g.hp.apart i j e e' y z k he he' hle hle' hy hz hk hk'
theorem GG.nilBox {w0 σ0 β0 nt σ β S a w} (g : GG w0 σ0 β0 nt σ β S a w) {h i : Nat} {cells : List SV} (hc : S.own[h]? = some (.box cells)) (hi : cells[i]? = some .nil) (e : Nat) :
    GG w0 σ0 β0 nt σ (β ++ [⟨none, e, 0, 0⟩]) ⟨S.tm, S.own.set h (.box (cells.set i (.vec S.own.length))) ++ [.vec e []]⟩ a w := by
  have hlt : h < S.own.length := by
    rcases Nat.lt_or_ge h S.own.length with h' | h'
    · exact h'
    · rw [List.getElem?_eq_none h'] at hc; cases hc
  have g1 := g.nilVec e
  have hc1 : (S.own ++ [.vec e []])[h]? = some (.box cells) := by rw [List.getElem?_append_left hlt]; exact hc
  have g2 := g1.reown (c' := .box (cells.set i (.vec S.own.length))) hc1 rfl (fun x hx => by
    obtain ⟨b, vs, h1, h2, h3, h4⟩ := g1.hp.ok _ _ _ hc1 hx
    refine ⟨b, vs, h1, h2, h3, relL_reset h4 hi (fun v hv => ?_)⟩
    simp only [rel] at hv ⊢
    exact ⟨⟨none, e, 0, 0⟩, by rw [← g.hp.len]; simp, hv⟩)
  have e2 : (S.own ++ [Chunk.vec e []]).set h (.box (cells.set i (.vec S.own.length))) = S.own.set h (.box (cells.set i (.vec S.own.length))) ++ [.vec e []] := by
    rw [List.set_append_left _ _ hlt]
  rw [← e2]; exact g2

inductive Ghost
  | fz (h : Nat)
  | fb (h : Nat)
  | nb (h i e : Nat)
  | wk (hs : List Nat) (S' : SS)
def runG (n : Nat) (nm : Bool) : List Ghost → SS → (SS → Prop) → Prop
  | [], S, k => k S
  | .fz h :: r, S, k => match Nat.ble n h with
    | true => match S.own[h]? with
      | some (.vec e rows) => forceL (S.own.set h (.fro e rows)) fun own => S.withTm fun tm => runG n nm r ⟨tm, own⟩ k
      | _ => False
    | false => False
  | .fb h :: r, S, k => match Nat.ble n h with
    | true => match S.own[h]? with
      | some (.box cells) => match closedL (nrmL S.own cells) with
        | true => forceVL (nrmL S.own cells) fun cells => forceL (S.own.set h (.frb cells)) fun own => S.withTm fun tm => runG n nm r ⟨tm, own⟩ k
        | false => False
      | _ => False
    | false => False
  | .nb h i e :: r, S, k => match S.own[h]? with
    | some (.box cells) => match cells[i]? with
      | some .nil => forceN S.own.length fun m => forceL (cells.set i (.vec m)) fun cells => forceL (S.own.set h (.box cells) ++ [.vec e []]) fun own => S.withTm fun tm => runG n nm r ⟨tm, own⟩ k
      | _ => False
    | _ => False
  | .wk hs S' :: r, S, k => match nm with
    | true => Le n hs S S' ∧ runG n true r S' k
    | false => False
inductive Gh (n : Nat) (nm : Bool) (k : SS → Prop) (S : SS) : Prop
  | mk (l : List Ghost) (h : runG n nm l S k) : Gh n nm k S

theorem lt_of_get? {α : Type} {l : List α} {i : Nat} {a : α} (h : l[i]? = some a) : i < l.length := by
  rcases Nat.lt_or_ge i l.length with h' | h'
  · exact h'
  · rw [List.getElem?_eq_none h'] at h; cases h
theorem runG_ok {n : Nat} {nm : Bool} {k : SS → Prop} : ∀ (l : List Ghost) (S : SS), runG n nm l S k → ∀ {w0 σ0 β0 nt σ β a w}, β0.length = n → (nm = true → ∀ b, nt.pin b = none) → GG w0 σ0 β0 nt σ β S a w → ∃ S' σ' β', k S' ∧ GG w0 σ0 β0 nt σ' β' S' a w
  | [], S, h, w0, σ0, β0, nt, σ, β, a, w, _, _, g => ⟨S, σ, β, h, g⟩
  | .wk hs S' :: r, S, h, w0, σ0, β0, nt, σ, β, a, w, hn, hnm, g => by
    cases nm with
    | false => exact h.elim
    | true =>
      obtain ⟨hle, h⟩ := h
      obtain ⟨β', g'⟩ := g.weak (hnm rfl) (by rw [hn]; exact hle)
      exact runG_ok r S' h hn hnm g'
  | .nb hh i e :: r, S, h, w0, σ0, β0, nt, σ, β, a, w, hn, hnm, g => by
    simp only [runG] at h
    split at h
    · rename_i cells ho
      split at h
      · rename_i hi
        have h := forceN_ok h
        rw [forceL_eq, forceL_eq] at h
        exact runG_ok r _ h hn hnm (g.nilBox ho hi e)
      · exact h.elim
    · exact h.elim
  | .fz hh :: r, S, h, w0, σ0, β0, nt, σ, β, a, w, hn, hnm, g => by
    simp only [runG] at h
    split at h
    · rename_i hnh
      have hnh := Nat.le_of_ble_eq_true hnh
      split at h
      · rename_i esz rows ho
        rw [forceL_eq] at h
        have hhl : hh < β.length := by rw [g.hp.len]; exact lt_of_get? ho
        obtain ⟨x, hx⟩ : ∃ x, β[hh]? = some x := ⟨_, List.getElem?_eq_getElem hhl⟩
        have hck := g.hp.ok _ _ _ ho hx
        obtain ⟨h1, h2, h3, h4⟩ := hck
        rcases h4 with ⟨hbn, rfl, hcap⟩ | ⟨b, vss, rest, hb, hσ, hO, hr, hcap, hl⟩
        · refine runG_ok r _ h hn hnm (σ := σ) (β := β) ⟨g.tm, g.sz, g.df, ⟨g.hp.ph, by simp [g.hp.len], ?_, g.hp.lt, ?_⟩, g.fr, g.pn⟩
          · intro i d y hd hy
            by_cases hi : i = hh
            · subst hi
              rw [List.getElem?_set_self (by rw [← g.hp.len]; exact hhl)] at hd; cases hd
              rw [hx] at hy; cases hy
              refine ⟨h2, ?_⟩
              simp only [rel]; exact ⟨none, 0, [], by simp [HB.slice, hbn, h2, hcap], by simp, by simp [relLL], by simp, by simp⟩
            · rw [List.getElem?_set_ne (Ne.symm hi)] at hd; exact g.hp.ok i d y hd hy
          · intro i j d d' y z k hd hd' hl hl' hy hz hk hk'
            have key : ∀ (i : Nat) (d : Chunk), (S.own.set hh (.fro esz []))[i]? = some d → live d = true → S.own[i]? = some d := by
              intro i d hd hl
              by_cases hi : i = hh
              · subst hi; rw [List.getElem?_set_self (by rw [← g.hp.len]; exact hhl)] at hd; cases hd; cases hl
              · rwa [List.getElem?_set_ne (Ne.symm hi)] at hd
            exact g.hp.apart i j d d' y z k (key i d hd hl) (key j d' hd' hl') hl hl' hy hz hk hk'
        · have hle : PH.le σ (fun k => if k = b then some (vss.flatten ++ rest) else σ k) := by
            intro k c hk
            have : k ≠ b := by rintro rfl; rw [hσ] at hk; cases hk
            simp only [if_neg this]; exact hk
          refine runG_ok r _ h hn hnm (g.freeze hx hb hσ (by omega) hO.blk ho rfl rfl ?_)
          refine ⟨h2, ?_⟩
          simp only [rel]
          refine ⟨some ⟨b, 0, none⟩, x.cap, vss, by simp [HB.slice, hb, h2], hcap, relLL.mono hle _ _ hr, h3, .inr ⟨b, 0, rfl, fun v hv => hO.1 v (by simp [List.mem_append, hv]), [], rest, by simp, rfl⟩⟩
      · exact h.elim
    · exact h.elim
  | .fb hh :: r, S, h, w0, σ0, β0, nt, σ, β, a, w, hn, hnm, g => by
    simp only [runG] at h
    split at h
    · rename_i hnh
      have hnh := Nat.le_of_ble_eq_true hnh
      split at h
      · rename_i cells ho
        split at h
        · rename_i hcl
          rw [forceVL_eq, forceL_eq] at h
          have hhl : hh < β.length := by rw [g.hp.len]; exact lt_of_get? ho
          obtain ⟨x, hx⟩ : ∃ x, β[hh]? = some x := ⟨_, List.getElem?_eq_getElem hhl⟩
          obtain ⟨b, vs, hb, hσ, hO, hr⟩ := g.hp.ok _ _ _ ho hx
          have hle : PH.le σ (fun k => if k = b then some vs else σ k) := by
            intro k c hk
            have : k ≠ b := by rintro rfl; rw [hσ] at hk; cases hk
            simp only [if_neg this]; exact hk
          refine runG_ok r _ h hn hnm (g.freeze hx hb hσ (by omega) hO.blk ho rfl rfl ?_)
          exact ⟨b, vs, hb, relL.mono hle (HB.le.refl _) _ _ (relL_closed _ _ hcl (relL_nrm g.hp _ _ hr)), hO.1, [], [], by simp, rfl⟩
        · exact h.elim
      · exact h.elim
    · exact h.elim
theorem Gh_ok {n : Nat} {nm : Bool} {k : SS → Prop} {S : SS} (h : Gh n nm k S) {w0 σ0 β0 nt σ β a w} (hn : β0.length = n) (hnm : nm = true → ∀ b, nt.pin b = none) (g : GG w0 σ0 β0 nt σ β S a w) : ∃ S' σ' β', k S' ∧ GG w0 σ0 β0 nt σ' β' S' a w := by
  obtain ⟨l, h⟩ := h; exact runG_ok l S h hn hnm g
end Go.Sx
