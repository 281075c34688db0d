/-
  No cell of these rows narrows 'for every input' (looked for: loops, veiled, ifaces, maps, wideKeys, modest, calm, conditions, laid).
  DERIVED. THE GIVEN ROWS OF THIS SEAT. 6 by the template 'for every input the law returns true; each argument reads behind the call as it read before'; 0 by the template 'total and deterministic' (their statements: YtjloccnbcgkmgaaTotals.lean).
  GIVEN WITH THE SEED: the statements are not yours to turn. If you find one false, say at which input.
  Laid BY PROGRAM, IN A SANDBOX (cutbox-rows.mjs): the forced cells as the released guide's own fill.sh prints them over the translation 7ad3619227e69284… (all of the seat's roots in one cut). By AI agents, Wed Nov 11 2026. No macro, syntax, notation, axiom, sorry.
-/
import Derived.Test.YtjloccnbcgkmgaaChecked
import GoSem.Claim
import GoSem.ClaimJoined
import GoSem.ClaimMapViews
import Derived.JoinedTies
import Derived.KernelRfl
namespace Go.Proofs.Ytjloccnbcgkmgaa
/- THE CELL 'sum', in the pinned program and in every row, IS THE sha256 OF THE DUMP (.gsa) THAT YtjloccnbcgkmgaaProg.lean LOADS. Nothing in Lean hashes anything: it is a label: what it is worth is what the hold of that sum in a sandbox is worth. -/
noncomputable def Try.pinned : Pinned := { name := "ytjloccnbcgkmgaa", sum := "7ad3619227e6928416db229bc3ecee0504004b0cef7933ceb3647d63d688ecaa", checked := Try.checked }
namespace Rows
def none {H : Type} : Left H := { results := [], args := [] }

/-- 'breadlinelaw11.ClaimOne': WHATEVER THE INPUT: true; the input reads as it did. -/
def claimOneSpec : ChangeSpec := { name := "claimOne", fn := fun _ => fun
  | [d1, d2, d3, d4] => { results := [.lit (.bool true)], args := [d1, d2, d3, d4] }
  | _ => none }
def claimOneRow : OpenClaim := { program := "ytjloccnbcgkmgaa", sum := "7ad3619227e6928416db229bc3ecee0504004b0cef7933ceb3647d63d688ecaa", func := "breadline/breadlinelaw11.ClaimOne", spec := "claimOne", unfollowed := true, recurses := true, apart := false }
def ClaimOneSaid : Prop := claimOneRow.holds Try.pinned (OpenSpec.ofChange claimOneSpec)

/-- ITS FALSE NEIGHBOUR: 'it returns false'. Refute it at one input. -/
def claimOneWrong : ChangeSpec := { name := "claimOne", fn := fun _ => fun
  | [d1, d2, d3, d4] => { results := [.lit (.bool false)], args := [d1, d2, d3, d4] }
  | _ => none }
def ClaimOneWrongFalsely : Prop := claimOneRow.holds Try.pinned (OpenSpec.ofChange claimOneWrong)

/-- 'breadlinelaw11.ClaimRow': WHATEVER THE INPUT: true; the input reads as it did. -/
def claimRowSpec : ChangeSpec := { name := "claimRow", fn := fun _ => fun
  | [d1, d2, d3] => { results := [.lit (.bool true)], args := [d1, d2, d3] }
  | _ => none }
def claimRowRow : OpenClaim := { program := "ytjloccnbcgkmgaa", sum := "7ad3619227e6928416db229bc3ecee0504004b0cef7933ceb3647d63d688ecaa", func := "breadline/breadlinelaw11.ClaimRow", spec := "claimRow", unfollowed := true, recurses := true, apart := false }
def ClaimRowSaid : Prop := claimRowRow.holds Try.pinned (OpenSpec.ofChange claimRowSpec)

/-- ITS FALSE NEIGHBOUR: 'it returns false'. Refute it at one input. -/
def claimRowWrong : ChangeSpec := { name := "claimRow", fn := fun _ => fun
  | [d1, d2, d3] => { results := [.lit (.bool false)], args := [d1, d2, d3] }
  | _ => none }
def ClaimRowWrongFalsely : Prop := claimRowRow.holds Try.pinned (OpenSpec.ofChange claimRowWrong)

/-- 'breadlinelaw11.ClaimAlone': WHATEVER THE INPUT: true; the input reads as it did. -/
def claimAloneSpec : ChangeSpec := { name := "claimAlone", fn := fun _ => fun
  | [d1, d2, d3] => { results := [.lit (.bool true)], args := [d1, d2, d3] }
  | _ => none }
def claimAloneRow : OpenClaim := { program := "ytjloccnbcgkmgaa", sum := "7ad3619227e6928416db229bc3ecee0504004b0cef7933ceb3647d63d688ecaa", func := "breadline/breadlinelaw11.ClaimAlone", spec := "claimAlone", unfollowed := true, recurses := true, apart := false }
def ClaimAloneSaid : Prop := claimAloneRow.holds Try.pinned (OpenSpec.ofChange claimAloneSpec)

/-- ITS FALSE NEIGHBOUR: 'it returns false'. Refute it at one input. -/
def claimAloneWrong : ChangeSpec := { name := "claimAlone", fn := fun _ => fun
  | [d1, d2, d3] => { results := [.lit (.bool false)], args := [d1, d2, d3] }
  | _ => none }
def ClaimAloneWrongFalsely : Prop := claimAloneRow.holds Try.pinned (OpenSpec.ofChange claimAloneWrong)

/-- 'breadlinelaw11.ClaimMost': WHATEVER THE INPUT: true; the input reads as it did. -/
def claimMostSpec : ChangeSpec := { name := "claimMost", fn := fun _ => fun
  | [d1, d2, d3, d4] => { results := [.lit (.bool true)], args := [d1, d2, d3, d4] }
  | _ => none }
def claimMostRow : OpenClaim := { program := "ytjloccnbcgkmgaa", sum := "7ad3619227e6928416db229bc3ecee0504004b0cef7933ceb3647d63d688ecaa", func := "breadline/breadlinelaw11.ClaimMost", spec := "claimMost", unfollowed := true, recurses := true, apart := false }
def ClaimMostSaid : Prop := claimMostRow.holds Try.pinned (OpenSpec.ofChange claimMostSpec)

/-- ITS FALSE NEIGHBOUR: 'it returns false'. Refute it at one input. -/
def claimMostWrong : ChangeSpec := { name := "claimMost", fn := fun _ => fun
  | [d1, d2, d3, d4] => { results := [.lit (.bool false)], args := [d1, d2, d3, d4] }
  | _ => none }
def ClaimMostWrongFalsely : Prop := claimMostRow.holds Try.pinned (OpenSpec.ofChange claimMostWrong)

/-- 'breadlinelaw11.ClaimEnd': WHATEVER THE INPUT: true; the input reads as it did. -/
def claimEndSpec : ChangeSpec := { name := "claimEnd", fn := fun _ => fun
  | [d1, d2, d3, d4] => { results := [.lit (.bool true)], args := [d1, d2, d3, d4] }
  | _ => none }
def claimEndRow : OpenClaim := { program := "ytjloccnbcgkmgaa", sum := "7ad3619227e6928416db229bc3ecee0504004b0cef7933ceb3647d63d688ecaa", func := "breadline/breadlinelaw11.ClaimEnd", spec := "claimEnd", unfollowed := true, recurses := true, apart := false }
def ClaimEndSaid : Prop := claimEndRow.holds Try.pinned (OpenSpec.ofChange claimEndSpec)

/-- ITS FALSE NEIGHBOUR: 'it returns false'. Refute it at one input. -/
def claimEndWrong : ChangeSpec := { name := "claimEnd", fn := fun _ => fun
  | [d1, d2, d3, d4] => { results := [.lit (.bool false)], args := [d1, d2, d3, d4] }
  | _ => none }
def ClaimEndWrongFalsely : Prop := claimEndRow.holds Try.pinned (OpenSpec.ofChange claimEndWrong)

/-- 'breadlinelaw11.ClaimTells': WHATEVER THE INPUT: true; the input reads as it did. -/
def claimTellsSpec : ChangeSpec := { name := "claimTells", fn := fun _ => fun
  | [d1, d2, d3, d4, d5] => { results := [.lit (.bool true)], args := [d1, d2, d3, d4, d5] }
  | _ => none }
def claimTellsRow : OpenClaim := { program := "ytjloccnbcgkmgaa", sum := "7ad3619227e6928416db229bc3ecee0504004b0cef7933ceb3647d63d688ecaa", func := "breadline/breadlinelaw11.ClaimTells", spec := "claimTells", unfollowed := true, recurses := true, apart := false }
def ClaimTellsSaid : Prop := claimTellsRow.holds Try.pinned (OpenSpec.ofChange claimTellsSpec)

/-- ITS FALSE NEIGHBOUR: 'it returns false'. Refute it at one input. -/
def claimTellsWrong : ChangeSpec := { name := "claimTells", fn := fun _ => fun
  | [d1, d2, d3, d4, d5] => { results := [.lit (.bool false)], args := [d1, d2, d3, d4, d5] }
  | _ => none }
def ClaimTellsWrongFalsely : Prop := claimTellsRow.holds Try.pinned (OpenSpec.ofChange claimTellsWrong)

/- THE SECOND FORM. 'bulk': how many values and letters a reading holds, each counted each time it is reached (what is shared counts as often as it is met; a slice's spare places count too). A statement '..UptoSaid' is the law's where the arguments, and the package variables that the reading takes, are together of bulk at most 1048576: NARROWER than '..Said'. Prove '..Said' where nothing that the law and all that it calls make is longer than what came in: it says more and counts as full. Else prove '..UptoSaid'. A law counts once. -/
mutual
def uptoBulk {H : Type} : DataW H → Nat
  | .lit (.string bytes) => bytes.length + 1
  | .lit _ => 1
  | .nil => 1
  | .ptr d => uptoBulk d + 1
  | .slice elems spare => uptoBulkAll elems + uptoBulkAll spare + 1
  | .agg parts => uptoBulkAll parts + 1
  | .iface _ d => uptoBulk d + 1
  | .map entries => uptoBulkEntries entries + 1
  | .held _ => 1
def uptoBulkAll {H : Type} : List (DataW H) → Nat
  | [] => 0
  | d :: r => uptoBulk d + uptoBulkAll r
def uptoBulkEntries {H : Type} : List (Lit × DataW H) → Nat
  | [] => 0
  | x :: r => uptoBulkEntry x + uptoBulkEntries r
def uptoBulkEntry {H : Type} : Lit × DataW H → Nat
  | (.string bytes, d) => bytes.length + uptoBulk d + 1
  | (_, d) => uptoBulk d + 1
 end
def uptoSmall : (H : Type) → List (DataW H) → Bool := fun _ ds => decide (uptoBulkAll ds ≤ 1048576)
def OpenSpec.upto (s : _root_.Go.ChangeSpec) : _root_.Go.OpenSpec := { _root_.Go.OpenSpec.ofChange s with cond := some uptoSmall }

/-- 'breadlinelaw11.ClaimOne', WHERE WHAT IT READS IS OF BULK AT MOST 1048576: true; the input reads as it did. -/
def claimOneUptoRow : OpenClaim := { program := "ytjloccnbcgkmgaa", sum := "7ad3619227e6928416db229bc3ecee0504004b0cef7933ceb3647d63d688ecaa", func := "breadline/breadlinelaw11.ClaimOne", spec := "claimOne", unfollowed := true, recurses := true, apart := false, narrowed := true }
def ClaimOneUptoSaid : Prop := claimOneUptoRow.holds Try.pinned (OpenSpec.upto claimOneSpec)

/-- 'breadlinelaw11.ClaimRow', WHERE WHAT IT READS IS OF BULK AT MOST 1048576: true; the input reads as it did. -/
def claimRowUptoRow : OpenClaim := { program := "ytjloccnbcgkmgaa", sum := "7ad3619227e6928416db229bc3ecee0504004b0cef7933ceb3647d63d688ecaa", func := "breadline/breadlinelaw11.ClaimRow", spec := "claimRow", unfollowed := true, recurses := true, apart := false, narrowed := true }
def ClaimRowUptoSaid : Prop := claimRowUptoRow.holds Try.pinned (OpenSpec.upto claimRowSpec)

/-- 'breadlinelaw11.ClaimAlone', WHERE WHAT IT READS IS OF BULK AT MOST 1048576: true; the input reads as it did. -/
def claimAloneUptoRow : OpenClaim := { program := "ytjloccnbcgkmgaa", sum := "7ad3619227e6928416db229bc3ecee0504004b0cef7933ceb3647d63d688ecaa", func := "breadline/breadlinelaw11.ClaimAlone", spec := "claimAlone", unfollowed := true, recurses := true, apart := false, narrowed := true }
def ClaimAloneUptoSaid : Prop := claimAloneUptoRow.holds Try.pinned (OpenSpec.upto claimAloneSpec)

/-- 'breadlinelaw11.ClaimMost', WHERE WHAT IT READS IS OF BULK AT MOST 1048576: true; the input reads as it did. -/
def claimMostUptoRow : OpenClaim := { program := "ytjloccnbcgkmgaa", sum := "7ad3619227e6928416db229bc3ecee0504004b0cef7933ceb3647d63d688ecaa", func := "breadline/breadlinelaw11.ClaimMost", spec := "claimMost", unfollowed := true, recurses := true, apart := false, narrowed := true }
def ClaimMostUptoSaid : Prop := claimMostUptoRow.holds Try.pinned (OpenSpec.upto claimMostSpec)

/-- 'breadlinelaw11.ClaimEnd', WHERE WHAT IT READS IS OF BULK AT MOST 1048576: true; the input reads as it did. -/
def claimEndUptoRow : OpenClaim := { program := "ytjloccnbcgkmgaa", sum := "7ad3619227e6928416db229bc3ecee0504004b0cef7933ceb3647d63d688ecaa", func := "breadline/breadlinelaw11.ClaimEnd", spec := "claimEnd", unfollowed := true, recurses := true, apart := false, narrowed := true }
def ClaimEndUptoSaid : Prop := claimEndUptoRow.holds Try.pinned (OpenSpec.upto claimEndSpec)

/-- 'breadlinelaw11.ClaimTells', WHERE WHAT IT READS IS OF BULK AT MOST 1048576: true; the input reads as it did. -/
def claimTellsUptoRow : OpenClaim := { program := "ytjloccnbcgkmgaa", sum := "7ad3619227e6928416db229bc3ecee0504004b0cef7933ceb3647d63d688ecaa", func := "breadline/breadlinelaw11.ClaimTells", spec := "claimTells", unfollowed := true, recurses := true, apart := false, narrowed := true }
def ClaimTellsUptoSaid : Prop := claimTellsUptoRow.holds Try.pinned (OpenSpec.upto claimTellsSpec)

end Rows
end Go.Proofs.Ytjloccnbcgkmgaa
