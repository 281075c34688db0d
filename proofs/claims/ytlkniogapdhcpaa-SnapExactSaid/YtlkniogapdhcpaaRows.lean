/-
  No cell of these rows narrows 'for every input' (looked for: loops, veiled, ifaces, maps, wideKeys, modest, calm, conditions, laid).
  DERIVED. THE GIVEN ROWS OF THIS SEAT. 6 by the template 'for every input the law returns true; each argument reads behind the call as it read before'; 0 by the template 'total and deterministic' (their statements: YtlkniogapdhcpaaTotals.lean).
  GIVEN WITH THE SEED: the statements are not yours to turn. If you find one false, say at which input.
  Laid BY PROGRAM, IN A SANDBOX (cutbox-rows.mjs): the forced cells as the released guide's own fill.sh prints them over the translation 34a6fe6a74131c8e… (all of the seat's roots in one cut). By AI agents, Wed Nov 11 2026. No macro, syntax, notation, axiom, sorry.
-/
import Derived.Test.YtlkniogapdhcpaaChecked
import GoSem.Claim
import GoSem.ClaimJoined
import GoSem.ClaimMapViews
import Derived.JoinedTies
import Derived.KernelRfl
namespace Go.Proofs.Ytlkniogapdhcpaa
/- THE CELL 'sum', in the pinned program and in every row, IS THE sha256 OF THE DUMP (.gsa) THAT YtlkniogapdhcpaaProg.lean LOADS. Nothing in Lean hashes anything: it is a label: what it is worth is what the hold of that sum in a sandbox is worth. -/
noncomputable def Try.pinned : Pinned := { name := "ytlkniogapdhcpaa", sum := "34a6fe6a74131c8ebcdc2747409976b8b70c3b261c062a4ef1a831c01f2302fc", checked := Try.checked }
namespace Rows
def none {H : Type} : Left H := { results := [], args := [] }

/-- 'breadlinelaw07.SnapLoads': WHATEVER THE INPUT: true; the input reads as it did. -/
def snapLoadsSpec : ChangeSpec := { name := "snapLoads", fn := fun _ => fun
  | [d1, d2, d3] => { results := [.lit (.bool true)], args := [d1, d2, d3] }
  | _ => none }
def snapLoadsRow : OpenClaim := { program := "ytlkniogapdhcpaa", sum := "34a6fe6a74131c8ebcdc2747409976b8b70c3b261c062a4ef1a831c01f2302fc", func := "breadline/breadlinelaw07.SnapLoads", spec := "snapLoads", unfollowed := true, recurses := true, apart := false }
def SnapLoadsSaid : Prop := snapLoadsRow.holds Try.pinned (OpenSpec.ofChange snapLoadsSpec)

/-- ITS FALSE NEIGHBOUR: 'it returns false'. Refute it at one input. -/
def snapLoadsWrong : ChangeSpec := { name := "snapLoads", fn := fun _ => fun
  | [d1, d2, d3] => { results := [.lit (.bool false)], args := [d1, d2, d3] }
  | _ => none }
def SnapLoadsWrongFalsely : Prop := snapLoadsRow.holds Try.pinned (OpenSpec.ofChange snapLoadsWrong)

/-- 'breadlinelaw07.SnapEnd': WHATEVER THE INPUT: true; the input reads as it did. -/
def snapEndSpec : ChangeSpec := { name := "snapEnd", fn := fun _ => fun
  | [d1, d2, d3, d4] => { results := [.lit (.bool true)], args := [d1, d2, d3, d4] }
  | _ => none }
def snapEndRow : OpenClaim := { program := "ytlkniogapdhcpaa", sum := "34a6fe6a74131c8ebcdc2747409976b8b70c3b261c062a4ef1a831c01f2302fc", func := "breadline/breadlinelaw07.SnapEnd", spec := "snapEnd", unfollowed := true, recurses := true, apart := false }
def SnapEndSaid : Prop := snapEndRow.holds Try.pinned (OpenSpec.ofChange snapEndSpec)

/-- ITS FALSE NEIGHBOUR: 'it returns false'. Refute it at one input. -/
def snapEndWrong : ChangeSpec := { name := "snapEnd", fn := fun _ => fun
  | [d1, d2, d3, d4] => { results := [.lit (.bool false)], args := [d1, d2, d3, d4] }
  | _ => none }
def SnapEndWrongFalsely : Prop := snapEndRow.holds Try.pinned (OpenSpec.ofChange snapEndWrong)

/-- 'breadlinelaw07.SnapTells': WHATEVER THE INPUT: true; the input reads as it did. -/
def snapTellsSpec : ChangeSpec := { name := "snapTells", fn := fun _ => fun
  | [d1, d2, d3, d4] => { results := [.lit (.bool true)], args := [d1, d2, d3, d4] }
  | _ => none }
def snapTellsRow : OpenClaim := { program := "ytlkniogapdhcpaa", sum := "34a6fe6a74131c8ebcdc2747409976b8b70c3b261c062a4ef1a831c01f2302fc", func := "breadline/breadlinelaw07.SnapTells", spec := "snapTells", unfollowed := true, recurses := true, apart := false }
def SnapTellsSaid : Prop := snapTellsRow.holds Try.pinned (OpenSpec.ofChange snapTellsSpec)

/-- ITS FALSE NEIGHBOUR: 'it returns false'. Refute it at one input. -/
def snapTellsWrong : ChangeSpec := { name := "snapTells", fn := fun _ => fun
  | [d1, d2, d3, d4] => { results := [.lit (.bool false)], args := [d1, d2, d3, d4] }
  | _ => none }
def SnapTellsWrongFalsely : Prop := snapTellsRow.holds Try.pinned (OpenSpec.ofChange snapTellsWrong)

/-- 'breadlinelaw07.SnapCalm': WHATEVER THE INPUT: true; the input reads as it did. -/
def snapCalmSpec : ChangeSpec := { name := "snapCalm", fn := fun _ => fun
  | [d1, d2, d3] => { results := [.lit (.bool true)], args := [d1, d2, d3] }
  | _ => none }
def snapCalmRow : OpenClaim := { program := "ytlkniogapdhcpaa", sum := "34a6fe6a74131c8ebcdc2747409976b8b70c3b261c062a4ef1a831c01f2302fc", func := "breadline/breadlinelaw07.SnapCalm", spec := "snapCalm", unfollowed := true, recurses := true, apart := false }
def SnapCalmSaid : Prop := snapCalmRow.holds Try.pinned (OpenSpec.ofChange snapCalmSpec)

/-- ITS FALSE NEIGHBOUR: 'it returns false'. Refute it at one input. -/
def snapCalmWrong : ChangeSpec := { name := "snapCalm", fn := fun _ => fun
  | [d1, d2, d3] => { results := [.lit (.bool false)], args := [d1, d2, d3] }
  | _ => none }
def SnapCalmWrongFalsely : Prop := snapCalmRow.holds Try.pinned (OpenSpec.ofChange snapCalmWrong)

/-- 'breadlinelaw07.SnapTwice': WHATEVER THE INPUT: true; the input reads as it did. -/
def snapTwiceSpec : ChangeSpec := { name := "snapTwice", fn := fun _ => fun
  | [d1, d2, d3] => { results := [.lit (.bool true)], args := [d1, d2, d3] }
  | _ => none }
def snapTwiceRow : OpenClaim := { program := "ytlkniogapdhcpaa", sum := "34a6fe6a74131c8ebcdc2747409976b8b70c3b261c062a4ef1a831c01f2302fc", func := "breadline/breadlinelaw07.SnapTwice", spec := "snapTwice", unfollowed := true, recurses := true, apart := false }
def SnapTwiceSaid : Prop := snapTwiceRow.holds Try.pinned (OpenSpec.ofChange snapTwiceSpec)

/-- ITS FALSE NEIGHBOUR: 'it returns false'. Refute it at one input. -/
def snapTwiceWrong : ChangeSpec := { name := "snapTwice", fn := fun _ => fun
  | [d1, d2, d3] => { results := [.lit (.bool false)], args := [d1, d2, d3] }
  | _ => none }
def SnapTwiceWrongFalsely : Prop := snapTwiceRow.holds Try.pinned (OpenSpec.ofChange snapTwiceWrong)

/-- 'breadlinelaw07.SnapExact': WHATEVER THE INPUT: true; the input reads as it did. -/
def snapExactSpec : ChangeSpec := { name := "snapExact", fn := fun _ => fun
  | [d1, d2, d3, d4] => { results := [.lit (.bool true)], args := [d1, d2, d3, d4] }
  | _ => none }
def snapExactRow : OpenClaim := { program := "ytlkniogapdhcpaa", sum := "34a6fe6a74131c8ebcdc2747409976b8b70c3b261c062a4ef1a831c01f2302fc", func := "breadline/breadlinelaw07.SnapExact", spec := "snapExact", unfollowed := true, recurses := true, apart := false }
def SnapExactSaid : Prop := snapExactRow.holds Try.pinned (OpenSpec.ofChange snapExactSpec)

/-- ITS FALSE NEIGHBOUR: 'it returns false'. Refute it at one input. -/
def snapExactWrong : ChangeSpec := { name := "snapExact", fn := fun _ => fun
  | [d1, d2, d3, d4] => { results := [.lit (.bool false)], args := [d1, d2, d3, d4] }
  | _ => none }
def SnapExactWrongFalsely : Prop := snapExactRow.holds Try.pinned (OpenSpec.ofChange snapExactWrong)

/- THE SECOND FORM. 'bulk': how many values and letters a reading holds, each counted each time it is reached (what is shared counts as often as it is met; a slice's spare places count too). A statement '..UptoSaid' is the law's where the arguments, and the package variables that the reading takes, are together of bulk at most 1048576: NARROWER than '..Said'. Prove '..Said' where nothing that the law and all that it calls make is longer than what came in: it says more and counts as full. Else prove '..UptoSaid'. A law counts once. -/
mutual
def uptoBulk {H : Type} : DataW H → Nat
  | .lit (.string bytes) => bytes.length + 1
  | .lit _ => 1
  | .nil => 1
  | .ptr d => uptoBulk d + 1
  | .slice elems spare => uptoBulkAll elems + uptoBulkAll spare + 1
  | .agg parts => uptoBulkAll parts + 1
  | .iface _ d => uptoBulk d + 1
  | .map entries => uptoBulkEntries entries + 1
  | .held _ => 1
def uptoBulkAll {H : Type} : List (DataW H) → Nat
  | [] => 0
  | d :: r => uptoBulk d + uptoBulkAll r
def uptoBulkEntries {H : Type} : List (Lit × DataW H) → Nat
  | [] => 0
  | x :: r => uptoBulkEntry x + uptoBulkEntries r
def uptoBulkEntry {H : Type} : Lit × DataW H → Nat
  | (.string bytes, d) => bytes.length + uptoBulk d + 1
  | (_, d) => uptoBulk d + 1
 end
def uptoSmall : (H : Type) → List (DataW H) → Bool := fun _ ds => decide (uptoBulkAll ds ≤ 1048576)
def OpenSpec.upto (s : _root_.Go.ChangeSpec) : _root_.Go.OpenSpec := { _root_.Go.OpenSpec.ofChange s with cond := some uptoSmall }

/-- 'breadlinelaw07.SnapLoads', WHERE WHAT IT READS IS OF BULK AT MOST 1048576: true; the input reads as it did. -/
def snapLoadsUptoRow : OpenClaim := { program := "ytlkniogapdhcpaa", sum := "34a6fe6a74131c8ebcdc2747409976b8b70c3b261c062a4ef1a831c01f2302fc", func := "breadline/breadlinelaw07.SnapLoads", spec := "snapLoads", unfollowed := true, recurses := true, apart := false, narrowed := true }
def SnapLoadsUptoSaid : Prop := snapLoadsUptoRow.holds Try.pinned (OpenSpec.upto snapLoadsSpec)

/-- 'breadlinelaw07.SnapEnd', WHERE WHAT IT READS IS OF BULK AT MOST 1048576: true; the input reads as it did. -/
def snapEndUptoRow : OpenClaim := { program := "ytlkniogapdhcpaa", sum := "34a6fe6a74131c8ebcdc2747409976b8b70c3b261c062a4ef1a831c01f2302fc", func := "breadline/breadlinelaw07.SnapEnd", spec := "snapEnd", unfollowed := true, recurses := true, apart := false, narrowed := true }
def SnapEndUptoSaid : Prop := snapEndUptoRow.holds Try.pinned (OpenSpec.upto snapEndSpec)

/-- 'breadlinelaw07.SnapTells', WHERE WHAT IT READS IS OF BULK AT MOST 1048576: true; the input reads as it did. -/
def snapTellsUptoRow : OpenClaim := { program := "ytlkniogapdhcpaa", sum := "34a6fe6a74131c8ebcdc2747409976b8b70c3b261c062a4ef1a831c01f2302fc", func := "breadline/breadlinelaw07.SnapTells", spec := "snapTells", unfollowed := true, recurses := true, apart := false, narrowed := true }
def SnapTellsUptoSaid : Prop := snapTellsUptoRow.holds Try.pinned (OpenSpec.upto snapTellsSpec)

/-- 'breadlinelaw07.SnapCalm', WHERE WHAT IT READS IS OF BULK AT MOST 1048576: true; the input reads as it did. -/
def snapCalmUptoRow : OpenClaim := { program := "ytlkniogapdhcpaa", sum := "34a6fe6a74131c8ebcdc2747409976b8b70c3b261c062a4ef1a831c01f2302fc", func := "breadline/breadlinelaw07.SnapCalm", spec := "snapCalm", unfollowed := true, recurses := true, apart := false, narrowed := true }
def SnapCalmUptoSaid : Prop := snapCalmUptoRow.holds Try.pinned (OpenSpec.upto snapCalmSpec)

/-- 'breadlinelaw07.SnapTwice', WHERE WHAT IT READS IS OF BULK AT MOST 1048576: true; the input reads as it did. -/
def snapTwiceUptoRow : OpenClaim := { program := "ytlkniogapdhcpaa", sum := "34a6fe6a74131c8ebcdc2747409976b8b70c3b261c062a4ef1a831c01f2302fc", func := "breadline/breadlinelaw07.SnapTwice", spec := "snapTwice", unfollowed := true, recurses := true, apart := false, narrowed := true }
def SnapTwiceUptoSaid : Prop := snapTwiceUptoRow.holds Try.pinned (OpenSpec.upto snapTwiceSpec)

/-- 'breadlinelaw07.SnapExact', WHERE WHAT IT READS IS OF BULK AT MOST 1048576: true; the input reads as it did. -/
def snapExactUptoRow : OpenClaim := { program := "ytlkniogapdhcpaa", sum := "34a6fe6a74131c8ebcdc2747409976b8b70c3b261c062a4ef1a831c01f2302fc", func := "breadline/breadlinelaw07.SnapExact", spec := "snapExact", unfollowed := true, recurses := true, apart := false, narrowed := true }
def SnapExactUptoSaid : Prop := snapExactUptoRow.holds Try.pinned (OpenSpec.upto snapExactSpec)

end Rows
end Go.Proofs.Ytlkniogapdhcpaa
