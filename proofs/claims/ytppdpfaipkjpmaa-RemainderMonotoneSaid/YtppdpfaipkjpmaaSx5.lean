/-
  A text of the proofs of this seat: lemmas that the statements' proofs use; it states nothing of the program by itself beyond the contracts that its theorems bear. Conditions: those that stand in each theorem. Its short name: Sx5.
-/
import Derived.Test.YtppdpfaipkjpmaaSx4
set_option linter.unusedVariables false
set_option linter.unusedSimpArgs false
namespace Go.Sx

theorem tyOK_under {P : Program} {t : Nat} {d : TyD} (h : TyOK P t d) (w : World) : (underlying t).run P w = .ok d.desc w := run_underlying h.2 w
theorem tyOK_size {P : Program} {t : Nat} {d : TyD} (h : TyOK P t d) (w : World) : (sizeOf t).run P w = .ok d.size w := by
  obtain ⟨⟨i, hi, hs, _, _⟩, _⟩ := h
  simp [sizeOf, typeInfo, hi, hs]
theorem tyOK_zero {P : Program} {t : Nat} {d : TyD} (h : TyOK P t d) (w : World) : (zeroValue t).run P w = .ok d.zero w := by
  obtain ⟨⟨i, hi, _, _, hz⟩, _⟩ := h
  simp [zeroValue, typeInfo, hi, hz]
theorem run_isAgg {P : Program} {t : Nat} {d : TyD} (h : TyOK P t d) (w : World) : (isAgg t).run P w = .ok (aggD d.desc) w := by
  simp only [isAgg, Sem.run_bind, tyOK_under h, Result.andThen_ok]
  cases d.desc <;> rfl

def sub (ag : Bool) (n off : Nat) (cells : List SV) : Option SV :=
  match ag with
  | true => match Nat.ble (off + n) cells.length with | true => some (.agg ((cells.drop off).take n)) | false => none
  | false => cells[off]?

theorem relL_split {σ β} {l : List SV} {vs : List Value} (h : relL σ β l vs) (off n : Nat) (hn : off + n ≤ l.length) :
    ∃ a m c, vs = a ++ m ++ c ∧ a.length = off ∧ m.length = n ∧ relL σ β ((l.drop off).take n) m ∧ relL σ β (l.take off) a ∧ relL σ β (l.drop (off + n)) c := by
  have hl := relL_length h
  refine ⟨vs.take off, (vs.drop off).take n, vs.drop (off + n), ?_, by simp; omega, by simp; omega, relL_take n (relL_drop off h), relL_take off h, relL_drop _ h⟩
  rw [List.append_assoc]
  conv => lhs; rw [← List.take_append_drop off vs, ← List.take_append_drop n (vs.drop off)]
  simp

theorem run_loadVar {P : Program} {σ : PH} {β : List HB} {T : Nat} {d : TyD} (hT : TyOK P T d) {b base off : Nat} {pre vs post : List Value} {cells : List SV} {s : SV}
    (hp : pre.length = base) (hr : relL σ β cells vs) (hs : sub (aggD d.desc) d.size off cells = some s) :
    ∃ v, (∀ w, Blk w b (pre ++ vs ++ post) → (Instr.loadAt T (.pointer (some ⟨b, base + off, none⟩))).run P w = .ok v w) ∧ rel σ β s v := by
  simp only [Instr.loadAt, Instr.sureAddr, pure_bind, loadVar, Sem.run_bind, run_isAgg hT, Result.andThen_ok]
  cases hag : aggD d.desc with
  | true =>
    rw [hag] at hs
    simp only [sub] at hs
    split at hs
    · rename_i hble; cases hs
      have hle := Nat.le_of_ble_eq_true hble
      obtain ⟨a, m, c, rfl, ha, hm, hrm, _, _⟩ := relL_split hr off d.size hle
      refine ⟨.agg m.toArray, fun w hb => ?_, by simp only [rel]; exact ⟨m, rfl, hrm⟩⟩
      have hb' : Blk w b ((pre ++ a) ++ m ++ (c ++ post)) := by simpa [List.append_assoc] using hb
      have hl := run_loadSeg (P := P) hb' (off := base + off) (by simp; omega) hm
      simp [tyOK_size hT, hl]
    · cases hs
  | false =>
    rw [hag] at hs
    simp only [sub] at hs
    obtain ⟨v, hv, hrv⟩ := relL_get hr hs
    refine ⟨v, fun w hb => ?_, hrv⟩
    have hc := cell_seg hb hp off v hv
    have : (⟨b, base, none⟩ : Addr).add off = ⟨b, base + off, none⟩ := by
      unfold Addr.add; split
      · rename_i h; subst h; rfl
      · rfl
    rw [this] at hc
    simp [run_load, hc]

def spl (off : Nat) (cs cells : List SV) : List SV := cells.take off ++ cs ++ cells.drop (off + cs.length)

theorem run_storeVar {P : Program} {w : World} {σ : PH} {β : List HB} {T : Nat} {d : TyD} (hT : TyOK P T d) {b base off : Nat} {pre vs post : List Value} {cells cs : List SV} {v : Value} {e : TypeId}
    (hb : w.heap[b]? = some (.cells (pre ++ vs ++ post).toArray e (0, 0))) (hp : pre.length = base) (hr : relL σ β cells vs)
    (hv : relL σ β cs v.cells.toList) (hsc : ∀ u ∈ v.cells.toList, scalar u = true) (hn : cs.length = d.size) (hle : off + d.size ≤ cells.length) :
    ∃ vs', (Instr.storeAt T (.pointer (some ⟨b, base + off, none⟩)) v).run P w = .ok () (put w b (.cells (pre ++ vs' ++ post).toArray e (0, 0))) ∧
      relL σ β (spl off cs cells) vs' ∧ vs'.length = vs.length ∧ (∀ u ∈ vs', u ∈ vs ∨ scalar u = true) := by
  obtain ⟨a, m, c, rfl, ha, hm, _, hra, hrc⟩ := relL_split hr off d.size hle
  have hvl := relL_length hv
  have hsz : v.cells.size = d.size := by rw [← Array.length_toList, hvl, hn]
  have hst := run_storeSeg (P := P) (b := b) (off := base + off) (T := e) (post := c ++ post) v.cells.toList m (pre ++ a) w 0
    (by rw [hb]; simp [List.append_assoc]) (by simp; omega) (by rw [hm, Array.length_toList, hsz]) hsc
  refine ⟨a ++ v.cells.toList ++ c, ?_, ?_, by simp [hm, hsz], ?_⟩
  · simp only [Instr.storeAt, Instr.sureAddr, pure_bind, storeVar, Sem.run_bind, tyOK_size hT, Result.andThen_ok]
    rw [if_neg (by simp [hsz]), hst]
    simp [List.append_assoc]
  · unfold spl
    rw [hn]
    exact relL_append (relL_append hra hv) hrc
  · intro u hu
    simp only [List.mem_append] at hu ⊢
    rcases hu with (h | h) | h
    · exact .inl (.inl (.inl h))
    · exact .inr (hsc u h)
    · exact .inl (.inr h)
end Go.Sx
