/-
  No cell of these rows narrows 'for every input' (looked for: loops, veiled, ifaces, maps, wideKeys, modest, calm, conditions, laid).
  DERIVED. THE GIVEN ROWS OF THIS SEAT. 7 by the template 'for every input the law returns true; each argument reads behind the call as it read before'; 0 by the template 'total and deterministic' (their statements: YtdjfeapncpcmgaaTotals.lean).
  GIVEN WITH THE SEED: the statements are not yours to turn. If you find one false, say at which input.
  Laid BY PROGRAM, IN A SANDBOX (cutbox-rows.mjs): the forced cells as the released guide's own fill.sh prints them over the translation 204903085dcdf2a9… (all of the seat's roots in one cut). By AI agents, Wed Nov 11 2026. No macro, syntax, notation, axiom, sorry.
-/
import Derived.Test.YtdjfeapncpcmgaaChecked
import GoSem.Claim
import GoSem.ClaimJoined
import GoSem.ClaimMapViews
import Derived.JoinedTies
import Derived.KernelRfl
namespace Go.Proofs.Ytdjfeapncpcmgaa
/- THE CELL 'sum', in the pinned program and in every row, IS THE sha256 OF THE DUMP (.gsa) THAT YtdjfeapncpcmgaaProg.lean LOADS. Nothing in Lean hashes anything: it is a label: what it is worth is what the hold of that sum in a sandbox is worth. -/
noncomputable def Try.pinned : Pinned := { name := "ytdjfeapncpcmgaa", sum := "204903085dcdf2a929f4288cf4e7d565e501c7d3e950020698c9384bdacfab21", checked := Try.checked }
namespace Rows
def none {H : Type} : Left H := { results := [], args := [] }

/-- 'breadlinelaw03.MemLog': WHATEVER THE INPUT: true; the input reads as it did. -/
def memLogSpec : ChangeSpec := { name := "memLog", fn := fun _ => fun
  | [d1, d2] => { results := [.lit (.bool true)], args := [d1, d2] }
  | _ => none }
def memLogRow : OpenClaim := { program := "ytdjfeapncpcmgaa", sum := "204903085dcdf2a929f4288cf4e7d565e501c7d3e950020698c9384bdacfab21", func := "breadline/breadlinelaw03.MemLog", spec := "memLog", unfollowed := true, recurses := true, apart := false }
def MemLogSaid : Prop := memLogRow.holds Try.pinned (OpenSpec.ofChange memLogSpec)

/-- ITS FALSE NEIGHBOUR: 'it returns false'. Refute it at one input. -/
def memLogWrong : ChangeSpec := { name := "memLog", fn := fun _ => fun
  | [d1, d2] => { results := [.lit (.bool false)], args := [d1, d2] }
  | _ => none }
def MemLogWrongFalsely : Prop := memLogRow.holds Try.pinned (OpenSpec.ofChange memLogWrong)

/-- 'breadlinelaw08.PoolAlone': WHATEVER THE INPUT: true; the input reads as it did. -/
def poolAloneSpec : ChangeSpec := { name := "poolAlone", fn := fun _ => fun
  | [d] => { results := [.lit (.bool true)], args := [d] }
  | _ => none }
def poolAloneRow : OpenClaim := { program := "ytdjfeapncpcmgaa", sum := "204903085dcdf2a929f4288cf4e7d565e501c7d3e950020698c9384bdacfab21", func := "breadline/breadlinelaw08.PoolAlone", spec := "poolAlone", unfollowed := true, recurses := true, apart := false }
def PoolAloneSaid : Prop := poolAloneRow.holds Try.pinned (OpenSpec.ofChange poolAloneSpec)

/-- ITS FALSE NEIGHBOUR: 'it returns false'. Refute it at one input. -/
def poolAloneWrong : ChangeSpec := { name := "poolAlone", fn := fun _ => fun
  | [d] => { results := [.lit (.bool false)], args := [d] }
  | _ => none }
def PoolAloneWrongFalsely : Prop := poolAloneRow.holds Try.pinned (OpenSpec.ofChange poolAloneWrong)

/-- 'breadlinelaw08.PoolMany': WHATEVER THE INPUT: true; the input reads as it did. -/
def poolManySpec : ChangeSpec := { name := "poolMany", fn := fun _ => fun
  | [d1, d2, d3] => { results := [.lit (.bool true)], args := [d1, d2, d3] }
  | _ => none }
def poolManyRow : OpenClaim := { program := "ytdjfeapncpcmgaa", sum := "204903085dcdf2a929f4288cf4e7d565e501c7d3e950020698c9384bdacfab21", func := "breadline/breadlinelaw08.PoolMany", spec := "poolMany", unfollowed := true, recurses := true, apart := false }
def PoolManySaid : Prop := poolManyRow.holds Try.pinned (OpenSpec.ofChange poolManySpec)

/-- ITS FALSE NEIGHBOUR: 'it returns false'. Refute it at one input. -/
def poolManyWrong : ChangeSpec := { name := "poolMany", fn := fun _ => fun
  | [d1, d2, d3] => { results := [.lit (.bool false)], args := [d1, d2, d3] }
  | _ => none }
def PoolManyWrongFalsely : Prop := poolManyRow.holds Try.pinned (OpenSpec.ofChange poolManyWrong)

/-- 'breadlinelaw08.PoolTells': WHATEVER THE INPUT: true; the input reads as it did. -/
def poolTellsSpec : ChangeSpec := { name := "poolTells", fn := fun _ => fun
  | [d1, d2] => { results := [.lit (.bool true)], args := [d1, d2] }
  | _ => none }
def poolTellsRow : OpenClaim := { program := "ytdjfeapncpcmgaa", sum := "204903085dcdf2a929f4288cf4e7d565e501c7d3e950020698c9384bdacfab21", func := "breadline/breadlinelaw08.PoolTells", spec := "poolTells", unfollowed := true, recurses := true, apart := false }
def PoolTellsSaid : Prop := poolTellsRow.holds Try.pinned (OpenSpec.ofChange poolTellsSpec)

/-- ITS FALSE NEIGHBOUR: 'it returns false'. Refute it at one input. -/
def poolTellsWrong : ChangeSpec := { name := "poolTells", fn := fun _ => fun
  | [d1, d2] => { results := [.lit (.bool false)], args := [d1, d2] }
  | _ => none }
def PoolTellsWrongFalsely : Prop := poolTellsRow.holds Try.pinned (OpenSpec.ofChange poolTellsWrong)

/-- 'breadlinelaw08.PoolExact': WHATEVER THE INPUT: true; the input reads as it did. -/
def poolExactSpec : ChangeSpec := { name := "poolExact", fn := fun _ => fun
  | [d] => { results := [.lit (.bool true)], args := [d] }
  | _ => none }
def poolExactRow : OpenClaim := { program := "ytdjfeapncpcmgaa", sum := "204903085dcdf2a929f4288cf4e7d565e501c7d3e950020698c9384bdacfab21", func := "breadline/breadlinelaw08.PoolExact", spec := "poolExact", unfollowed := true, recurses := true, apart := false }
def PoolExactSaid : Prop := poolExactRow.holds Try.pinned (OpenSpec.ofChange poolExactSpec)

/-- ITS FALSE NEIGHBOUR: 'it returns false'. Refute it at one input. -/
def poolExactWrong : ChangeSpec := { name := "poolExact", fn := fun _ => fun
  | [d] => { results := [.lit (.bool false)], args := [d] }
  | _ => none }
def PoolExactWrongFalsely : Prop := poolExactRow.holds Try.pinned (OpenSpec.ofChange poolExactWrong)

/-- 'breadlinelaw08.PoolBounds': WHATEVER THE INPUT: true; the input reads as it did. -/
def poolBoundsSpec : ChangeSpec := { name := "poolBounds", fn := fun _ => fun
  | [d] => { results := [.lit (.bool true)], args := [d] }
  | _ => none }
def poolBoundsRow : OpenClaim := { program := "ytdjfeapncpcmgaa", sum := "204903085dcdf2a929f4288cf4e7d565e501c7d3e950020698c9384bdacfab21", func := "breadline/breadlinelaw08.PoolBounds", spec := "poolBounds", unfollowed := true, recurses := true, apart := false }
def PoolBoundsSaid : Prop := poolBoundsRow.holds Try.pinned (OpenSpec.ofChange poolBoundsSpec)

/-- ITS FALSE NEIGHBOUR: 'it returns false'. Refute it at one input. -/
def poolBoundsWrong : ChangeSpec := { name := "poolBounds", fn := fun _ => fun
  | [d] => { results := [.lit (.bool false)], args := [d] }
  | _ => none }
def PoolBoundsWrongFalsely : Prop := poolBoundsRow.holds Try.pinned (OpenSpec.ofChange poolBoundsWrong)

/-- 'breadlinelaw08.PoolEnd': WHATEVER THE INPUT: true; the input reads as it did. -/
def poolEndSpec : ChangeSpec := { name := "poolEnd", fn := fun _ => fun
  | [d1, d2] => { results := [.lit (.bool true)], args := [d1, d2] }
  | _ => none }
def poolEndRow : OpenClaim := { program := "ytdjfeapncpcmgaa", sum := "204903085dcdf2a929f4288cf4e7d565e501c7d3e950020698c9384bdacfab21", func := "breadline/breadlinelaw08.PoolEnd", spec := "poolEnd", unfollowed := true, recurses := true, apart := false }
def PoolEndSaid : Prop := poolEndRow.holds Try.pinned (OpenSpec.ofChange poolEndSpec)

/-- ITS FALSE NEIGHBOUR: 'it returns false'. Refute it at one input. -/
def poolEndWrong : ChangeSpec := { name := "poolEnd", fn := fun _ => fun
  | [d1, d2] => { results := [.lit (.bool false)], args := [d1, d2] }
  | _ => none }
def PoolEndWrongFalsely : Prop := poolEndRow.holds Try.pinned (OpenSpec.ofChange poolEndWrong)

/- THE SECOND FORM. 'bulk': how many values and letters a reading holds, each counted each time it is reached (what is shared counts as often as it is met; a slice's spare places count too). A statement '..UptoSaid' is the law's where the arguments, and the package variables that the reading takes, are together of bulk at most 1048576: NARROWER than '..Said'. Prove '..Said' where nothing that the law and all that it calls make is longer than what came in: it says more and counts as full. Else prove '..UptoSaid'. A law counts once. -/
mutual
def uptoBulk {H : Type} : DataW H → Nat
  | .lit (.string bytes) => bytes.length + 1
  | .lit _ => 1
  | .nil => 1
  | .ptr d => uptoBulk d + 1
  | .slice elems spare => uptoBulkAll elems + uptoBulkAll spare + 1
  | .agg parts => uptoBulkAll parts + 1
  | .iface _ d => uptoBulk d + 1
  | .map entries => uptoBulkEntries entries + 1
  | .held _ => 1
def uptoBulkAll {H : Type} : List (DataW H) → Nat
  | [] => 0
  | d :: r => uptoBulk d + uptoBulkAll r
def uptoBulkEntries {H : Type} : List (Lit × DataW H) → Nat
  | [] => 0
  | x :: r => uptoBulkEntry x + uptoBulkEntries r
def uptoBulkEntry {H : Type} : Lit × DataW H → Nat
  | (.string bytes, d) => bytes.length + uptoBulk d + 1
  | (_, d) => uptoBulk d + 1
 end
def uptoSmall : (H : Type) → List (DataW H) → Bool := fun _ ds => decide (uptoBulkAll ds ≤ 1048576)
def OpenSpec.upto (s : _root_.Go.ChangeSpec) : _root_.Go.OpenSpec := { _root_.Go.OpenSpec.ofChange s with cond := some uptoSmall }

/-- 'breadlinelaw03.MemLog', WHERE WHAT IT READS IS OF BULK AT MOST 1048576: true; the input reads as it did. -/
def memLogUptoRow : OpenClaim := { program := "ytdjfeapncpcmgaa", sum := "204903085dcdf2a929f4288cf4e7d565e501c7d3e950020698c9384bdacfab21", func := "breadline/breadlinelaw03.MemLog", spec := "memLog", unfollowed := true, recurses := true, apart := false, narrowed := true }
def MemLogUptoSaid : Prop := memLogUptoRow.holds Try.pinned (OpenSpec.upto memLogSpec)

/-- 'breadlinelaw08.PoolAlone', WHERE WHAT IT READS IS OF BULK AT MOST 1048576: true; the input reads as it did. -/
def poolAloneUptoRow : OpenClaim := { program := "ytdjfeapncpcmgaa", sum := "204903085dcdf2a929f4288cf4e7d565e501c7d3e950020698c9384bdacfab21", func := "breadline/breadlinelaw08.PoolAlone", spec := "poolAlone", unfollowed := true, recurses := true, apart := false, narrowed := true }
def PoolAloneUptoSaid : Prop := poolAloneUptoRow.holds Try.pinned (OpenSpec.upto poolAloneSpec)

/-- 'breadlinelaw08.PoolMany', WHERE WHAT IT READS IS OF BULK AT MOST 1048576: true; the input reads as it did. -/
def poolManyUptoRow : OpenClaim := { program := "ytdjfeapncpcmgaa", sum := "204903085dcdf2a929f4288cf4e7d565e501c7d3e950020698c9384bdacfab21", func := "breadline/breadlinelaw08.PoolMany", spec := "poolMany", unfollowed := true, recurses := true, apart := false, narrowed := true }
def PoolManyUptoSaid : Prop := poolManyUptoRow.holds Try.pinned (OpenSpec.upto poolManySpec)

/-- 'breadlinelaw08.PoolTells', WHERE WHAT IT READS IS OF BULK AT MOST 1048576: true; the input reads as it did. -/
def poolTellsUptoRow : OpenClaim := { program := "ytdjfeapncpcmgaa", sum := "204903085dcdf2a929f4288cf4e7d565e501c7d3e950020698c9384bdacfab21", func := "breadline/breadlinelaw08.PoolTells", spec := "poolTells", unfollowed := true, recurses := true, apart := false, narrowed := true }
def PoolTellsUptoSaid : Prop := poolTellsUptoRow.holds Try.pinned (OpenSpec.upto poolTellsSpec)

/-- 'breadlinelaw08.PoolExact', WHERE WHAT IT READS IS OF BULK AT MOST 1048576: true; the input reads as it did. -/
def poolExactUptoRow : OpenClaim := { program := "ytdjfeapncpcmgaa", sum := "204903085dcdf2a929f4288cf4e7d565e501c7d3e950020698c9384bdacfab21", func := "breadline/breadlinelaw08.PoolExact", spec := "poolExact", unfollowed := true, recurses := true, apart := false, narrowed := true }
def PoolExactUptoSaid : Prop := poolExactUptoRow.holds Try.pinned (OpenSpec.upto poolExactSpec)

/-- 'breadlinelaw08.PoolBounds', WHERE WHAT IT READS IS OF BULK AT MOST 1048576: true; the input reads as it did. -/
def poolBoundsUptoRow : OpenClaim := { program := "ytdjfeapncpcmgaa", sum := "204903085dcdf2a929f4288cf4e7d565e501c7d3e950020698c9384bdacfab21", func := "breadline/breadlinelaw08.PoolBounds", spec := "poolBounds", unfollowed := true, recurses := true, apart := false, narrowed := true }
def PoolBoundsUptoSaid : Prop := poolBoundsUptoRow.holds Try.pinned (OpenSpec.upto poolBoundsSpec)

/-- 'breadlinelaw08.PoolEnd', WHERE WHAT IT READS IS OF BULK AT MOST 1048576: true; the input reads as it did. -/
def poolEndUptoRow : OpenClaim := { program := "ytdjfeapncpcmgaa", sum := "204903085dcdf2a929f4288cf4e7d565e501c7d3e950020698c9384bdacfab21", func := "breadline/breadlinelaw08.PoolEnd", spec := "poolEnd", unfollowed := true, recurses := true, apart := false, narrowed := true }
def PoolEndUptoSaid : Prop := poolEndUptoRow.holds Try.pinned (OpenSpec.upto poolEndSpec)

end Rows
end Go.Proofs.Ytdjfeapncpcmgaa
