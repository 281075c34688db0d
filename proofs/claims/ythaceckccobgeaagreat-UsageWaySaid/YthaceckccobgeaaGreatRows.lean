/-
  No cell of these rows narrows 'for every input' (looked for: loops, veiled, ifaces, maps, wideKeys, modest, calm, conditions, laid).
  DERIVED. THE GIVEN ROWS OF THIS SEAT. 4 by the template 'for every input the law returns true; each argument reads behind the call as it read before'; 0 by the template 'total and deterministic' (their statements: YthaceckccobgeaaGreatTotals.lean).
  GIVEN WITH THE SEED: the statements are not yours to turn. If you find one false, say at which input.
  Laid BY PROGRAM, IN A SANDBOX (cutbox-rows.mjs): the forced cells as the released guide's own fill.sh prints them over the translation fc6d939c1acddca8… (all of the seat's roots in one cut). By AI agents, Wed Nov 11 2026. No macro, syntax, notation, axiom, sorry.
-/
import Derived.Test.YthaceckccobgeaaGreatChecked
import GoSem.Claim
import GoSem.ClaimJoined
import GoSem.ClaimMapViews
import Derived.JoinedTies
import Derived.KernelRfl
namespace Go.Proofs.YthaceckccobgeaaGreat
/- THE CELL 'sum', in the pinned program and in every row, IS THE sha256 OF THE DUMP (.gsa) THAT YthaceckccobgeaaGreatProg.lean LOADS. Nothing in Lean hashes anything: it is a label: what it is worth is what the hold of that sum in a sandbox is worth. -/
noncomputable def Tryz.pinned : Pinned := { name := "ythaceckccobgeaagreat", sum := "fc6d939c1acddca8e1c25d48b0aca0e410a24eab0fbb3988de6a231382e58ada", checked := Tryz.checked }
namespace Rows
def none {H : Type} : Left H := { results := [], args := [] }

/-- 'breadlinelaw14.UsageWay': WHATEVER THE INPUT: true; the input reads as it did. -/
def usageWaySpec : ChangeSpec := { name := "usageWay", fn := fun _ => fun
  | [d1, d2] => { results := [.lit (.bool true)], args := [d1, d2] }
  | _ => none }
def usageWayRow : OpenClaim := { program := "ythaceckccobgeaagreat", sum := "fc6d939c1acddca8e1c25d48b0aca0e410a24eab0fbb3988de6a231382e58ada", func := "breadline/breadlinelaw14.UsageWay", spec := "usageWay", unfollowed := true, recurses := true, apart := false }
def UsageWaySaid : Prop := usageWayRow.holds Tryz.pinned (OpenSpec.ofChange usageWaySpec)

/-- ITS FALSE NEIGHBOUR: 'it returns false'. Refute it at one input. -/
def usageWayWrong : ChangeSpec := { name := "usageWay", fn := fun _ => fun
  | [d1, d2] => { results := [.lit (.bool false)], args := [d1, d2] }
  | _ => none }
def UsageWayWrongFalsely : Prop := usageWayRow.holds Tryz.pinned (OpenSpec.ofChange usageWayWrong)

/-- 'breadlinelaw14.UsagePart': WHATEVER THE INPUT: true; the input reads as it did. -/
def usagePartSpec : ChangeSpec := { name := "usagePart", fn := fun _ => fun
  | [d1, d2, d3, d4] => { results := [.lit (.bool true)], args := [d1, d2, d3, d4] }
  | _ => none }
def usagePartRow : OpenClaim := { program := "ythaceckccobgeaagreat", sum := "fc6d939c1acddca8e1c25d48b0aca0e410a24eab0fbb3988de6a231382e58ada", func := "breadline/breadlinelaw14.UsagePart", spec := "usagePart", unfollowed := true, recurses := true, apart := false }
def UsagePartSaid : Prop := usagePartRow.holds Tryz.pinned (OpenSpec.ofChange usagePartSpec)

/-- ITS FALSE NEIGHBOUR: 'it returns false'. Refute it at one input. -/
def usagePartWrong : ChangeSpec := { name := "usagePart", fn := fun _ => fun
  | [d1, d2, d3, d4] => { results := [.lit (.bool false)], args := [d1, d2, d3, d4] }
  | _ => none }
def UsagePartWrongFalsely : Prop := usagePartRow.holds Tryz.pinned (OpenSpec.ofChange usagePartWrong)

/-- 'breadlinelaw14.UsageTells': WHATEVER THE INPUT: true; the input reads as it did. -/
def usageTellsSpec : ChangeSpec := { name := "usageTells", fn := fun _ => fun
  | [d1, d2, d3, d4] => { results := [.lit (.bool true)], args := [d1, d2, d3, d4] }
  | _ => none }
def usageTellsRow : OpenClaim := { program := "ythaceckccobgeaagreat", sum := "fc6d939c1acddca8e1c25d48b0aca0e410a24eab0fbb3988de6a231382e58ada", func := "breadline/breadlinelaw14.UsageTells", spec := "usageTells", unfollowed := true, recurses := true, apart := false }
def UsageTellsSaid : Prop := usageTellsRow.holds Tryz.pinned (OpenSpec.ofChange usageTellsSpec)

/-- ITS FALSE NEIGHBOUR: 'it returns false'. Refute it at one input. -/
def usageTellsWrong : ChangeSpec := { name := "usageTells", fn := fun _ => fun
  | [d1, d2, d3, d4] => { results := [.lit (.bool false)], args := [d1, d2, d3, d4] }
  | _ => none }
def UsageTellsWrongFalsely : Prop := usageTellsRow.holds Tryz.pinned (OpenSpec.ofChange usageTellsWrong)

/-- 'breadlinelaw14.UsageQuiet': WHATEVER THE INPUT: true; the input reads as it did. -/
def usageQuietSpec : ChangeSpec := { name := "usageQuiet", fn := fun _ => fun
  | [d1, d2] => { results := [.lit (.bool true)], args := [d1, d2] }
  | _ => none }
def usageQuietRow : OpenClaim := { program := "ythaceckccobgeaagreat", sum := "fc6d939c1acddca8e1c25d48b0aca0e410a24eab0fbb3988de6a231382e58ada", func := "breadline/breadlinelaw14.UsageQuiet", spec := "usageQuiet", unfollowed := true, recurses := true, apart := false }
def UsageQuietSaid : Prop := usageQuietRow.holds Tryz.pinned (OpenSpec.ofChange usageQuietSpec)

/-- ITS FALSE NEIGHBOUR: 'it returns false'. Refute it at one input. -/
def usageQuietWrong : ChangeSpec := { name := "usageQuiet", fn := fun _ => fun
  | [d1, d2] => { results := [.lit (.bool false)], args := [d1, d2] }
  | _ => none }
def UsageQuietWrongFalsely : Prop := usageQuietRow.holds Tryz.pinned (OpenSpec.ofChange usageQuietWrong)

/- THE SECOND FORM. 'bulk': how many values and letters a reading holds, each counted each time it is reached (what is shared counts as often as it is met; a slice's spare places count too). A statement '..UptoSaid' is the law's where the arguments, and the package variables that the reading takes, are together of bulk at most 1048576: NARROWER than '..Said'. Prove '..Said' where nothing that the law and all that it calls make is longer than what came in: it says more and counts as full. Else prove '..UptoSaid'. A law counts once. -/
mutual
def uptoBulk {H : Type} : DataW H → Nat
  | .lit (.string bytes) => bytes.length + 1
  | .lit _ => 1
  | .nil => 1
  | .ptr d => uptoBulk d + 1
  | .slice elems spare => uptoBulkAll elems + uptoBulkAll spare + 1
  | .agg parts => uptoBulkAll parts + 1
  | .iface _ d => uptoBulk d + 1
  | .map entries => uptoBulkEntries entries + 1
  | .held _ => 1
def uptoBulkAll {H : Type} : List (DataW H) → Nat
  | [] => 0
  | d :: r => uptoBulk d + uptoBulkAll r
def uptoBulkEntries {H : Type} : List (Lit × DataW H) → Nat
  | [] => 0
  | x :: r => uptoBulkEntry x + uptoBulkEntries r
def uptoBulkEntry {H : Type} : Lit × DataW H → Nat
  | (.string bytes, d) => bytes.length + uptoBulk d + 1
  | (_, d) => uptoBulk d + 1
 end
def uptoSmall : (H : Type) → List (DataW H) → Bool := fun _ ds => decide (uptoBulkAll ds ≤ 1048576)
def OpenSpec.upto (s : _root_.Go.ChangeSpec) : _root_.Go.OpenSpec := { _root_.Go.OpenSpec.ofChange s with cond := some uptoSmall }

/-- 'breadlinelaw14.UsageWay', WHERE WHAT IT READS IS OF BULK AT MOST 1048576: true; the input reads as it did. -/
def usageWayUptoRow : OpenClaim := { program := "ythaceckccobgeaagreat", sum := "fc6d939c1acddca8e1c25d48b0aca0e410a24eab0fbb3988de6a231382e58ada", func := "breadline/breadlinelaw14.UsageWay", spec := "usageWay", unfollowed := true, recurses := true, apart := false, narrowed := true }
def UsageWayUptoSaid : Prop := usageWayUptoRow.holds Tryz.pinned (OpenSpec.upto usageWaySpec)

/-- 'breadlinelaw14.UsagePart', WHERE WHAT IT READS IS OF BULK AT MOST 1048576: true; the input reads as it did. -/
def usagePartUptoRow : OpenClaim := { program := "ythaceckccobgeaagreat", sum := "fc6d939c1acddca8e1c25d48b0aca0e410a24eab0fbb3988de6a231382e58ada", func := "breadline/breadlinelaw14.UsagePart", spec := "usagePart", unfollowed := true, recurses := true, apart := false, narrowed := true }
def UsagePartUptoSaid : Prop := usagePartUptoRow.holds Tryz.pinned (OpenSpec.upto usagePartSpec)

/-- 'breadlinelaw14.UsageTells', WHERE WHAT IT READS IS OF BULK AT MOST 1048576: true; the input reads as it did. -/
def usageTellsUptoRow : OpenClaim := { program := "ythaceckccobgeaagreat", sum := "fc6d939c1acddca8e1c25d48b0aca0e410a24eab0fbb3988de6a231382e58ada", func := "breadline/breadlinelaw14.UsageTells", spec := "usageTells", unfollowed := true, recurses := true, apart := false, narrowed := true }
def UsageTellsUptoSaid : Prop := usageTellsUptoRow.holds Tryz.pinned (OpenSpec.upto usageTellsSpec)

/-- 'breadlinelaw14.UsageQuiet', WHERE WHAT IT READS IS OF BULK AT MOST 1048576: true; the input reads as it did. -/
def usageQuietUptoRow : OpenClaim := { program := "ythaceckccobgeaagreat", sum := "fc6d939c1acddca8e1c25d48b0aca0e410a24eab0fbb3988de6a231382e58ada", func := "breadline/breadlinelaw14.UsageQuiet", spec := "usageQuiet", unfollowed := true, recurses := true, apart := false, narrowed := true }
def UsageQuietUptoSaid : Prop := usageQuietUptoRow.holds Tryz.pinned (OpenSpec.upto usageQuietSpec)

end Rows
end Go.Proofs.YthaceckccobgeaaGreat
