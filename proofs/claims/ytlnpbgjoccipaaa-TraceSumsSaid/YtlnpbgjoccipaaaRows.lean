/-
  No cell of these rows narrows 'for every input' (looked for: loops, veiled, ifaces, maps, wideKeys, modest, calm, conditions, laid).
  DERIVED. THE GIVEN ROWS OF THIS SEAT. 7 by the template 'for every input the law returns true; each argument reads behind the call as it read before'; 0 by the template 'total and deterministic' (their statements: YtlnpbgjoccipaaaTotals.lean).
  GIVEN WITH THE SEED: the statements are not yours to turn. If you find one false, say at which input.
  Laid BY PROGRAM, IN A SANDBOX (cutbox-rows.mjs): the forced cells as the released guide's own fill.sh prints them over the translation 91e26052a1be8ce4… (all of the seat's roots in one cut). By AI agents, Wed Nov 11 2026. No macro, syntax, notation, axiom, sorry.
-/
import Derived.Test.YtlnpbgjoccipaaaChecked
import GoSem.Claim
import GoSem.ClaimJoined
import GoSem.ClaimMapViews
import Derived.JoinedTies
import Derived.KernelRfl
namespace Go.Proofs.Ytlnpbgjoccipaaa
/- THE CELL 'sum', in the pinned program and in every row, IS THE sha256 OF THE DUMP (.gsa) THAT YtlnpbgjoccipaaaProg.lean LOADS. Nothing in Lean hashes anything: it is a label: what it is worth is what the hold of that sum in a sandbox is worth. -/
noncomputable def Try.pinned : Pinned := { name := "ytlnpbgjoccipaaa", sum := "91e26052a1be8ce459795baabb147c64d370891b6af18c1459c449934cf5c242", checked := Try.checked }
namespace Rows
def none {H : Type} : Left H := { results := [], args := [] }

/-- 'netcalculuslaw13.TraceOrders': WHATEVER THE INPUT: true; the input reads as it did. -/
def traceOrdersSpec : ChangeSpec := { name := "traceOrders", fn := fun _ => fun
  | [d1, d2] => { results := [.lit (.bool true)], args := [d1, d2] }
  | _ => none }
def traceOrdersRow : OpenClaim := { program := "ytlnpbgjoccipaaa", sum := "91e26052a1be8ce459795baabb147c64d370891b6af18c1459c449934cf5c242", func := "netcalculus/netcalculuslaw13.TraceOrders", spec := "traceOrders", unfollowed := true, recurses := true, apart := false }
def TraceOrdersSaid : Prop := traceOrdersRow.holds Try.pinned (OpenSpec.ofChange traceOrdersSpec)

/-- ITS FALSE NEIGHBOUR: 'it returns false'. Refute it at one input. -/
def traceOrdersWrong : ChangeSpec := { name := "traceOrders", fn := fun _ => fun
  | [d1, d2] => { results := [.lit (.bool false)], args := [d1, d2] }
  | _ => none }
def TraceOrdersWrongFalsely : Prop := traceOrdersRow.holds Try.pinned (OpenSpec.ofChange traceOrdersWrong)

/-- 'netcalculuslaw13.TraceSums': WHATEVER THE INPUT: true; the input reads as it did. -/
def traceSumsSpec : ChangeSpec := { name := "traceSums", fn := fun _ => fun
  | [d] => { results := [.lit (.bool true)], args := [d] }
  | _ => none }
def traceSumsRow : OpenClaim := { program := "ytlnpbgjoccipaaa", sum := "91e26052a1be8ce459795baabb147c64d370891b6af18c1459c449934cf5c242", func := "netcalculus/netcalculuslaw13.TraceSums", spec := "traceSums", unfollowed := true, recurses := true, apart := false }
def TraceSumsSaid : Prop := traceSumsRow.holds Try.pinned (OpenSpec.ofChange traceSumsSpec)

/-- ITS FALSE NEIGHBOUR: 'it returns false'. Refute it at one input. -/
def traceSumsWrong : ChangeSpec := { name := "traceSums", fn := fun _ => fun
  | [d] => { results := [.lit (.bool false)], args := [d] }
  | _ => none }
def TraceSumsWrongFalsely : Prop := traceSumsRow.holds Try.pinned (OpenSpec.ofChange traceSumsWrong)

/-- 'netcalculuslaw15.PacketWhole': WHATEVER THE INPUT: true; the input reads as it did. -/
def packetWholeSpec : ChangeSpec := { name := "packetWhole", fn := fun _ => fun
  | [d1, d2] => { results := [.lit (.bool true)], args := [d1, d2] }
  | _ => none }
def packetWholeRow : OpenClaim := { program := "ytlnpbgjoccipaaa", sum := "91e26052a1be8ce459795baabb147c64d370891b6af18c1459c449934cf5c242", func := "netcalculus/netcalculuslaw15.PacketWhole", spec := "packetWhole", unfollowed := true, recurses := true, apart := false }
def PacketWholeSaid : Prop := packetWholeRow.holds Try.pinned (OpenSpec.ofChange packetWholeSpec)

/-- ITS FALSE NEIGHBOUR: 'it returns false'. Refute it at one input. -/
def packetWholeWrong : ChangeSpec := { name := "packetWhole", fn := fun _ => fun
  | [d1, d2] => { results := [.lit (.bool false)], args := [d1, d2] }
  | _ => none }
def PacketWholeWrongFalsely : Prop := packetWholeRow.holds Try.pinned (OpenSpec.ofChange packetWholeWrong)

/-- 'netcalculuslaw15.PacketHops': WHATEVER THE INPUT: true; the input reads as it did. -/
def packetHopsSpec : ChangeSpec := { name := "packetHops", fn := fun _ => fun
  | [d] => { results := [.lit (.bool true)], args := [d] }
  | _ => none }
def packetHopsRow : OpenClaim := { program := "ytlnpbgjoccipaaa", sum := "91e26052a1be8ce459795baabb147c64d370891b6af18c1459c449934cf5c242", func := "netcalculus/netcalculuslaw15.PacketHops", spec := "packetHops", unfollowed := true, recurses := true, apart := false }
def PacketHopsSaid : Prop := packetHopsRow.holds Try.pinned (OpenSpec.ofChange packetHopsSpec)

/-- ITS FALSE NEIGHBOUR: 'it returns false'. Refute it at one input. -/
def packetHopsWrong : ChangeSpec := { name := "packetHops", fn := fun _ => fun
  | [d] => { results := [.lit (.bool false)], args := [d] }
  | _ => none }
def PacketHopsWrongFalsely : Prop := packetHopsRow.holds Try.pinned (OpenSpec.ofChange packetHopsWrong)

/-- 'netcalculuslaw15.PacketArrives': WHATEVER THE INPUT: true; the input reads as it did. -/
def packetArrivesSpec : ChangeSpec := { name := "packetArrives", fn := fun _ => fun
  | [d1, d2] => { results := [.lit (.bool true)], args := [d1, d2] }
  | _ => none }
def packetArrivesRow : OpenClaim := { program := "ytlnpbgjoccipaaa", sum := "91e26052a1be8ce459795baabb147c64d370891b6af18c1459c449934cf5c242", func := "netcalculus/netcalculuslaw15.PacketArrives", spec := "packetArrives", unfollowed := true, recurses := true, apart := false }
def PacketArrivesSaid : Prop := packetArrivesRow.holds Try.pinned (OpenSpec.ofChange packetArrivesSpec)

/-- ITS FALSE NEIGHBOUR: 'it returns false'. Refute it at one input. -/
def packetArrivesWrong : ChangeSpec := { name := "packetArrives", fn := fun _ => fun
  | [d1, d2] => { results := [.lit (.bool false)], args := [d1, d2] }
  | _ => none }
def PacketArrivesWrongFalsely : Prop := packetArrivesRow.holds Try.pinned (OpenSpec.ofChange packetArrivesWrong)

/-- 'netcalculuslaw15.PacketServes': WHATEVER THE INPUT: true; the input reads as it did. -/
def packetServesSpec : ChangeSpec := { name := "packetServes", fn := fun _ => fun
  | [d] => { results := [.lit (.bool true)], args := [d] }
  | _ => none }
def packetServesRow : OpenClaim := { program := "ytlnpbgjoccipaaa", sum := "91e26052a1be8ce459795baabb147c64d370891b6af18c1459c449934cf5c242", func := "netcalculus/netcalculuslaw15.PacketServes", spec := "packetServes", unfollowed := true, recurses := true, apart := false }
def PacketServesSaid : Prop := packetServesRow.holds Try.pinned (OpenSpec.ofChange packetServesSpec)

/-- ITS FALSE NEIGHBOUR: 'it returns false'. Refute it at one input. -/
def packetServesWrong : ChangeSpec := { name := "packetServes", fn := fun _ => fun
  | [d] => { results := [.lit (.bool false)], args := [d] }
  | _ => none }
def PacketServesWrongFalsely : Prop := packetServesRow.holds Try.pinned (OpenSpec.ofChange packetServesWrong)

/-- 'netcalculuslaw15.PacketAnswers': WHATEVER THE INPUT: true; the input reads as it did. -/
def packetAnswersSpec : ChangeSpec := { name := "packetAnswers", fn := fun _ => fun
  | [d1, d2, d3, d4, d5, d6] => { results := [.lit (.bool true)], args := [d1, d2, d3, d4, d5, d6] }
  | _ => none }
def packetAnswersRow : OpenClaim := { program := "ytlnpbgjoccipaaa", sum := "91e26052a1be8ce459795baabb147c64d370891b6af18c1459c449934cf5c242", func := "netcalculus/netcalculuslaw15.PacketAnswers", spec := "packetAnswers", unfollowed := true, recurses := true, apart := false }
def PacketAnswersSaid : Prop := packetAnswersRow.holds Try.pinned (OpenSpec.ofChange packetAnswersSpec)

/-- ITS FALSE NEIGHBOUR: 'it returns false'. Refute it at one input. -/
def packetAnswersWrong : ChangeSpec := { name := "packetAnswers", fn := fun _ => fun
  | [d1, d2, d3, d4, d5, d6] => { results := [.lit (.bool false)], args := [d1, d2, d3, d4, d5, d6] }
  | _ => none }
def PacketAnswersWrongFalsely : Prop := packetAnswersRow.holds Try.pinned (OpenSpec.ofChange packetAnswersWrong)

/- THE SECOND FORM. 'bulk': how many values and letters a reading holds, each counted each time it is reached (what is shared counts as often as it is met; a slice's spare places count too). A statement '..UptoSaid' is the law's where the arguments, and the package variables that the reading takes, are together of bulk at most 1048576: NARROWER than '..Said'. Prove '..Said' where nothing that the law and all that it calls make is longer than what came in: it says more and counts as full. Else prove '..UptoSaid'. A law counts once. -/
mutual
def uptoBulk {H : Type} : DataW H → Nat
  | .lit (.string bytes) => bytes.length + 1
  | .lit _ => 1
  | .nil => 1
  | .ptr d => uptoBulk d + 1
  | .slice elems spare => uptoBulkAll elems + uptoBulkAll spare + 1
  | .agg parts => uptoBulkAll parts + 1
  | .iface _ d => uptoBulk d + 1
  | .map entries => uptoBulkEntries entries + 1
  | .held _ => 1
def uptoBulkAll {H : Type} : List (DataW H) → Nat
  | [] => 0
  | d :: r => uptoBulk d + uptoBulkAll r
def uptoBulkEntries {H : Type} : List (Lit × DataW H) → Nat
  | [] => 0
  | x :: r => uptoBulkEntry x + uptoBulkEntries r
def uptoBulkEntry {H : Type} : Lit × DataW H → Nat
  | (.string bytes, d) => bytes.length + uptoBulk d + 1
  | (_, d) => uptoBulk d + 1
 end
def uptoSmall : (H : Type) → List (DataW H) → Bool := fun _ ds => decide (uptoBulkAll ds ≤ 1048576)
def OpenSpec.upto (s : _root_.Go.ChangeSpec) : _root_.Go.OpenSpec := { _root_.Go.OpenSpec.ofChange s with cond := some uptoSmall }

/-- 'netcalculuslaw13.TraceOrders', WHERE WHAT IT READS IS OF BULK AT MOST 1048576: true; the input reads as it did. -/
def traceOrdersUptoRow : OpenClaim := { program := "ytlnpbgjoccipaaa", sum := "91e26052a1be8ce459795baabb147c64d370891b6af18c1459c449934cf5c242", func := "netcalculus/netcalculuslaw13.TraceOrders", spec := "traceOrders", unfollowed := true, recurses := true, apart := false, narrowed := true }
def TraceOrdersUptoSaid : Prop := traceOrdersUptoRow.holds Try.pinned (OpenSpec.upto traceOrdersSpec)

/-- 'netcalculuslaw13.TraceSums', WHERE WHAT IT READS IS OF BULK AT MOST 1048576: true; the input reads as it did. -/
def traceSumsUptoRow : OpenClaim := { program := "ytlnpbgjoccipaaa", sum := "91e26052a1be8ce459795baabb147c64d370891b6af18c1459c449934cf5c242", func := "netcalculus/netcalculuslaw13.TraceSums", spec := "traceSums", unfollowed := true, recurses := true, apart := false, narrowed := true }
def TraceSumsUptoSaid : Prop := traceSumsUptoRow.holds Try.pinned (OpenSpec.upto traceSumsSpec)

/-- 'netcalculuslaw15.PacketWhole', WHERE WHAT IT READS IS OF BULK AT MOST 1048576: true; the input reads as it did. -/
def packetWholeUptoRow : OpenClaim := { program := "ytlnpbgjoccipaaa", sum := "91e26052a1be8ce459795baabb147c64d370891b6af18c1459c449934cf5c242", func := "netcalculus/netcalculuslaw15.PacketWhole", spec := "packetWhole", unfollowed := true, recurses := true, apart := false, narrowed := true }
def PacketWholeUptoSaid : Prop := packetWholeUptoRow.holds Try.pinned (OpenSpec.upto packetWholeSpec)

/-- 'netcalculuslaw15.PacketHops', WHERE WHAT IT READS IS OF BULK AT MOST 1048576: true; the input reads as it did. -/
def packetHopsUptoRow : OpenClaim := { program := "ytlnpbgjoccipaaa", sum := "91e26052a1be8ce459795baabb147c64d370891b6af18c1459c449934cf5c242", func := "netcalculus/netcalculuslaw15.PacketHops", spec := "packetHops", unfollowed := true, recurses := true, apart := false, narrowed := true }
def PacketHopsUptoSaid : Prop := packetHopsUptoRow.holds Try.pinned (OpenSpec.upto packetHopsSpec)

/-- 'netcalculuslaw15.PacketArrives', WHERE WHAT IT READS IS OF BULK AT MOST 1048576: true; the input reads as it did. -/
def packetArrivesUptoRow : OpenClaim := { program := "ytlnpbgjoccipaaa", sum := "91e26052a1be8ce459795baabb147c64d370891b6af18c1459c449934cf5c242", func := "netcalculus/netcalculuslaw15.PacketArrives", spec := "packetArrives", unfollowed := true, recurses := true, apart := false, narrowed := true }
def PacketArrivesUptoSaid : Prop := packetArrivesUptoRow.holds Try.pinned (OpenSpec.upto packetArrivesSpec)

/-- 'netcalculuslaw15.PacketServes', WHERE WHAT IT READS IS OF BULK AT MOST 1048576: true; the input reads as it did. -/
def packetServesUptoRow : OpenClaim := { program := "ytlnpbgjoccipaaa", sum := "91e26052a1be8ce459795baabb147c64d370891b6af18c1459c449934cf5c242", func := "netcalculus/netcalculuslaw15.PacketServes", spec := "packetServes", unfollowed := true, recurses := true, apart := false, narrowed := true }
def PacketServesUptoSaid : Prop := packetServesUptoRow.holds Try.pinned (OpenSpec.upto packetServesSpec)

/-- 'netcalculuslaw15.PacketAnswers', WHERE WHAT IT READS IS OF BULK AT MOST 1048576: true; the input reads as it did. -/
def packetAnswersUptoRow : OpenClaim := { program := "ytlnpbgjoccipaaa", sum := "91e26052a1be8ce459795baabb147c64d370891b6af18c1459c449934cf5c242", func := "netcalculus/netcalculuslaw15.PacketAnswers", spec := "packetAnswers", unfollowed := true, recurses := true, apart := false, narrowed := true }
def PacketAnswersUptoSaid : Prop := packetAnswersUptoRow.holds Try.pinned (OpenSpec.upto packetAnswersSpec)

end Rows
end Go.Proofs.Ytlnpbgjoccipaaa
