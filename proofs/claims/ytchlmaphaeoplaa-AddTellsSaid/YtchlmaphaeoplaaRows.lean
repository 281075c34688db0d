/-
  No cell of these rows narrows 'for every input' (looked for: loops, veiled, ifaces, maps, wideKeys, modest, calm, conditions, laid).
  DERIVED. THE GIVEN ROWS OF THIS SEAT. 6 by the template 'for every input the law returns true; each argument reads behind the call as it read before'; 0 by the template 'total and deterministic' (their statements: YtchlmaphaeoplaaTotals.lean).
  GIVEN WITH THE SEED: the statements are not yours to turn. If you find one false, say at which input.
  Laid BY PROGRAM, IN A SANDBOX (cutbox-rows.mjs): the forced cells as the released guide's own fill.sh prints them over the translation 16d382c2cb8b977d… (all of the seat's roots in one cut). By AI agents, Wed Nov 11 2026. No macro, syntax, notation, axiom, sorry.
-/
import Derived.Test.YtchlmaphaeoplaaChecked
import GoSem.Claim
import GoSem.ClaimJoined
import GoSem.ClaimMapViews
import Derived.JoinedTies
import Derived.KernelRfl
namespace Go.Proofs.Ytchlmaphaeoplaa
/- THE CELL 'sum', in the pinned program and in every row, IS THE sha256 OF THE DUMP (.gsa) THAT YtchlmaphaeoplaaProg.lean LOADS. Nothing in Lean hashes anything: it is a label: what it is worth is what the hold of that sum in a sandbox is worth. -/
noncomputable def Try.pinned : Pinned := { name := "ytchlmaphaeoplaa", sum := "16d382c2cb8b977dccf9dd5985da151fbfe72d87ced4d19365c1020c5e9b4fb5", checked := Try.checked }
namespace Rows
def none {H : Type} : Left H := { results := [], args := [] }

/-- 'breadlinelaw06.AddAlone': WHATEVER THE INPUT: true; the input reads as it did. -/
def addAloneSpec : ChangeSpec := { name := "addAlone", fn := fun _ => fun
  | [d1, d2, d3] => { results := [.lit (.bool true)], args := [d1, d2, d3] }
  | _ => none }
def addAloneRow : OpenClaim := { program := "ytchlmaphaeoplaa", sum := "16d382c2cb8b977dccf9dd5985da151fbfe72d87ced4d19365c1020c5e9b4fb5", func := "breadline/breadlinelaw06.AddAlone", spec := "addAlone", unfollowed := true, recurses := true, apart := false }
def AddAloneSaid : Prop := addAloneRow.holds Try.pinned (OpenSpec.ofChange addAloneSpec)

/-- ITS FALSE NEIGHBOUR: 'it returns false'. Refute it at one input. -/
def addAloneWrong : ChangeSpec := { name := "addAlone", fn := fun _ => fun
  | [d1, d2, d3] => { results := [.lit (.bool false)], args := [d1, d2, d3] }
  | _ => none }
def AddAloneWrongFalsely : Prop := addAloneRow.holds Try.pinned (OpenSpec.ofChange addAloneWrong)

/-- 'breadlinelaw06.AddRow': WHATEVER THE INPUT: true; the input reads as it did. -/
def addRowSpec : ChangeSpec := { name := "addRow", fn := fun _ => fun
  | [d1, d2, d3] => { results := [.lit (.bool true)], args := [d1, d2, d3] }
  | _ => none }
def addRowRow : OpenClaim := { program := "ytchlmaphaeoplaa", sum := "16d382c2cb8b977dccf9dd5985da151fbfe72d87ced4d19365c1020c5e9b4fb5", func := "breadline/breadlinelaw06.AddRow", spec := "addRow", unfollowed := true, recurses := true, apart := false }
def AddRowSaid : Prop := addRowRow.holds Try.pinned (OpenSpec.ofChange addRowSpec)

/-- ITS FALSE NEIGHBOUR: 'it returns false'. Refute it at one input. -/
def addRowWrong : ChangeSpec := { name := "addRow", fn := fun _ => fun
  | [d1, d2, d3] => { results := [.lit (.bool false)], args := [d1, d2, d3] }
  | _ => none }
def AddRowWrongFalsely : Prop := addRowRow.holds Try.pinned (OpenSpec.ofChange addRowWrong)

/-- 'breadlinelaw06.AddTwo': WHATEVER THE INPUT: true; the input reads as it did. -/
def addTwoSpec : ChangeSpec := { name := "addTwo", fn := fun _ => fun
  | [d1, d2, d3, d4] => { results := [.lit (.bool true)], args := [d1, d2, d3, d4] }
  | _ => none }
def addTwoRow : OpenClaim := { program := "ytchlmaphaeoplaa", sum := "16d382c2cb8b977dccf9dd5985da151fbfe72d87ced4d19365c1020c5e9b4fb5", func := "breadline/breadlinelaw06.AddTwo", spec := "addTwo", unfollowed := true, recurses := true, apart := false }
def AddTwoSaid : Prop := addTwoRow.holds Try.pinned (OpenSpec.ofChange addTwoSpec)

/-- ITS FALSE NEIGHBOUR: 'it returns false'. Refute it at one input. -/
def addTwoWrong : ChangeSpec := { name := "addTwo", fn := fun _ => fun
  | [d1, d2, d3, d4] => { results := [.lit (.bool false)], args := [d1, d2, d3, d4] }
  | _ => none }
def AddTwoWrongFalsely : Prop := addTwoRow.holds Try.pinned (OpenSpec.ofChange addTwoWrong)

/-- 'breadlinelaw06.AddTells': WHATEVER THE INPUT: true; the input reads as it did. -/
def addTellsSpec : ChangeSpec := { name := "addTells", fn := fun _ => fun
  | [d1, d2, d3, d4, d5] => { results := [.lit (.bool true)], args := [d1, d2, d3, d4, d5] }
  | _ => none }
def addTellsRow : OpenClaim := { program := "ytchlmaphaeoplaa", sum := "16d382c2cb8b977dccf9dd5985da151fbfe72d87ced4d19365c1020c5e9b4fb5", func := "breadline/breadlinelaw06.AddTells", spec := "addTells", unfollowed := true, recurses := true, apart := false }
def AddTellsSaid : Prop := addTellsRow.holds Try.pinned (OpenSpec.ofChange addTellsSpec)

/-- ITS FALSE NEIGHBOUR: 'it returns false'. Refute it at one input. -/
def addTellsWrong : ChangeSpec := { name := "addTells", fn := fun _ => fun
  | [d1, d2, d3, d4, d5] => { results := [.lit (.bool false)], args := [d1, d2, d3, d4, d5] }
  | _ => none }
def AddTellsWrongFalsely : Prop := addTellsRow.holds Try.pinned (OpenSpec.ofChange addTellsWrong)

/-- 'breadlinelaw06.AddGate': WHATEVER THE INPUT: true; the input reads as it did. -/
def addGateSpec : ChangeSpec := { name := "addGate", fn := fun _ => fun
  | [d1, d2, d3, d4] => { results := [.lit (.bool true)], args := [d1, d2, d3, d4] }
  | _ => none }
def addGateRow : OpenClaim := { program := "ytchlmaphaeoplaa", sum := "16d382c2cb8b977dccf9dd5985da151fbfe72d87ced4d19365c1020c5e9b4fb5", func := "breadline/breadlinelaw06.AddGate", spec := "addGate", unfollowed := true, recurses := true, apart := false }
def AddGateSaid : Prop := addGateRow.holds Try.pinned (OpenSpec.ofChange addGateSpec)

/-- ITS FALSE NEIGHBOUR: 'it returns false'. Refute it at one input. -/
def addGateWrong : ChangeSpec := { name := "addGate", fn := fun _ => fun
  | [d1, d2, d3, d4] => { results := [.lit (.bool false)], args := [d1, d2, d3, d4] }
  | _ => none }
def AddGateWrongFalsely : Prop := addGateRow.holds Try.pinned (OpenSpec.ofChange addGateWrong)

/-- 'breadlinelaw06.AddEnd': WHATEVER THE INPUT: true; the input reads as it did. -/
def addEndSpec : ChangeSpec := { name := "addEnd", fn := fun _ => fun
  | [d1, d2, d3] => { results := [.lit (.bool true)], args := [d1, d2, d3] }
  | _ => none }
def addEndRow : OpenClaim := { program := "ytchlmaphaeoplaa", sum := "16d382c2cb8b977dccf9dd5985da151fbfe72d87ced4d19365c1020c5e9b4fb5", func := "breadline/breadlinelaw06.AddEnd", spec := "addEnd", unfollowed := true, recurses := true, apart := false }
def AddEndSaid : Prop := addEndRow.holds Try.pinned (OpenSpec.ofChange addEndSpec)

/-- ITS FALSE NEIGHBOUR: 'it returns false'. Refute it at one input. -/
def addEndWrong : ChangeSpec := { name := "addEnd", fn := fun _ => fun
  | [d1, d2, d3] => { results := [.lit (.bool false)], args := [d1, d2, d3] }
  | _ => none }
def AddEndWrongFalsely : Prop := addEndRow.holds Try.pinned (OpenSpec.ofChange addEndWrong)

/- THE SECOND FORM. 'bulk': how many values and letters a reading holds, each counted each time it is reached (what is shared counts as often as it is met; a slice's spare places count too). A statement '..UptoSaid' is the law's where the arguments, and the package variables that the reading takes, are together of bulk at most 1048576: NARROWER than '..Said'. Prove '..Said' where nothing that the law and all that it calls make is longer than what came in: it says more and counts as full. Else prove '..UptoSaid'. A law counts once. -/
mutual
def uptoBulk {H : Type} : DataW H → Nat
  | .lit (.string bytes) => bytes.length + 1
  | .lit _ => 1
  | .nil => 1
  | .ptr d => uptoBulk d + 1
  | .slice elems spare => uptoBulkAll elems + uptoBulkAll spare + 1
  | .agg parts => uptoBulkAll parts + 1
  | .iface _ d => uptoBulk d + 1
  | .map entries => uptoBulkEntries entries + 1
  | .held _ => 1
def uptoBulkAll {H : Type} : List (DataW H) → Nat
  | [] => 0
  | d :: r => uptoBulk d + uptoBulkAll r
def uptoBulkEntries {H : Type} : List (Lit × DataW H) → Nat
  | [] => 0
  | x :: r => uptoBulkEntry x + uptoBulkEntries r
def uptoBulkEntry {H : Type} : Lit × DataW H → Nat
  | (.string bytes, d) => bytes.length + uptoBulk d + 1
  | (_, d) => uptoBulk d + 1
 end
def uptoSmall : (H : Type) → List (DataW H) → Bool := fun _ ds => decide (uptoBulkAll ds ≤ 1048576)
def OpenSpec.upto (s : _root_.Go.ChangeSpec) : _root_.Go.OpenSpec := { _root_.Go.OpenSpec.ofChange s with cond := some uptoSmall }

/-- 'breadlinelaw06.AddAlone', WHERE WHAT IT READS IS OF BULK AT MOST 1048576: true; the input reads as it did. -/
def addAloneUptoRow : OpenClaim := { program := "ytchlmaphaeoplaa", sum := "16d382c2cb8b977dccf9dd5985da151fbfe72d87ced4d19365c1020c5e9b4fb5", func := "breadline/breadlinelaw06.AddAlone", spec := "addAlone", unfollowed := true, recurses := true, apart := false, narrowed := true }
def AddAloneUptoSaid : Prop := addAloneUptoRow.holds Try.pinned (OpenSpec.upto addAloneSpec)

/-- 'breadlinelaw06.AddRow', WHERE WHAT IT READS IS OF BULK AT MOST 1048576: true; the input reads as it did. -/
def addRowUptoRow : OpenClaim := { program := "ytchlmaphaeoplaa", sum := "16d382c2cb8b977dccf9dd5985da151fbfe72d87ced4d19365c1020c5e9b4fb5", func := "breadline/breadlinelaw06.AddRow", spec := "addRow", unfollowed := true, recurses := true, apart := false, narrowed := true }
def AddRowUptoSaid : Prop := addRowUptoRow.holds Try.pinned (OpenSpec.upto addRowSpec)

/-- 'breadlinelaw06.AddTwo', WHERE WHAT IT READS IS OF BULK AT MOST 1048576: true; the input reads as it did. -/
def addTwoUptoRow : OpenClaim := { program := "ytchlmaphaeoplaa", sum := "16d382c2cb8b977dccf9dd5985da151fbfe72d87ced4d19365c1020c5e9b4fb5", func := "breadline/breadlinelaw06.AddTwo", spec := "addTwo", unfollowed := true, recurses := true, apart := false, narrowed := true }
def AddTwoUptoSaid : Prop := addTwoUptoRow.holds Try.pinned (OpenSpec.upto addTwoSpec)

/-- 'breadlinelaw06.AddTells', WHERE WHAT IT READS IS OF BULK AT MOST 1048576: true; the input reads as it did. -/
def addTellsUptoRow : OpenClaim := { program := "ytchlmaphaeoplaa", sum := "16d382c2cb8b977dccf9dd5985da151fbfe72d87ced4d19365c1020c5e9b4fb5", func := "breadline/breadlinelaw06.AddTells", spec := "addTells", unfollowed := true, recurses := true, apart := false, narrowed := true }
def AddTellsUptoSaid : Prop := addTellsUptoRow.holds Try.pinned (OpenSpec.upto addTellsSpec)

/-- 'breadlinelaw06.AddGate', WHERE WHAT IT READS IS OF BULK AT MOST 1048576: true; the input reads as it did. -/
def addGateUptoRow : OpenClaim := { program := "ytchlmaphaeoplaa", sum := "16d382c2cb8b977dccf9dd5985da151fbfe72d87ced4d19365c1020c5e9b4fb5", func := "breadline/breadlinelaw06.AddGate", spec := "addGate", unfollowed := true, recurses := true, apart := false, narrowed := true }
def AddGateUptoSaid : Prop := addGateUptoRow.holds Try.pinned (OpenSpec.upto addGateSpec)

/-- 'breadlinelaw06.AddEnd', WHERE WHAT IT READS IS OF BULK AT MOST 1048576: true; the input reads as it did. -/
def addEndUptoRow : OpenClaim := { program := "ytchlmaphaeoplaa", sum := "16d382c2cb8b977dccf9dd5985da151fbfe72d87ced4d19365c1020c5e9b4fb5", func := "breadline/breadlinelaw06.AddEnd", spec := "addEnd", unfollowed := true, recurses := true, apart := false, narrowed := true }
def AddEndUptoSaid : Prop := addEndUptoRow.holds Try.pinned (OpenSpec.upto addEndSpec)

end Rows
end Go.Proofs.Ytchlmaphaeoplaa
