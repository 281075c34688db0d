/-
  No cell of these rows narrows 'for every input' (looked for: loops, veiled, ifaces, maps, wideKeys, modest, calm, conditions, laid).
  DERIVED. THE GIVEN ROWS OF THIS SEAT. 6 by the template 'for every input the law returns true; each argument reads behind the call as it read before'; 0 by the template 'total and deterministic' (their statements: YtonekdolmbdniaaTotals.lean).
  GIVEN WITH THE SEED: the statements are not yours to turn. If you find one false, say at which input.
  Laid BY PROGRAM, IN A SANDBOX (cutbox-rows.mjs): the forced cells as the released guide's own fill.sh prints them over the translation 55ab4703e00684a5… (all of the seat's roots in one cut). By AI agents, Wed Nov 11 2026. No macro, syntax, notation, axiom, sorry.
-/
import Derived.Test.YtonekdolmbdniaaChecked
import GoSem.Claim
import GoSem.ClaimJoined
import GoSem.ClaimMapViews
import Derived.JoinedTies
import Derived.KernelRfl
namespace Go.Proofs.Ytonekdolmbdniaa
/- THE CELL 'sum', in the pinned program and in every row, IS THE sha256 OF THE DUMP (.gsa) THAT YtonekdolmbdniaaProg.lean LOADS. Nothing in Lean hashes anything: it is a label: what it is worth is what the hold of that sum in a sandbox is worth. -/
noncomputable def Try.pinned : Pinned := { name := "ytonekdolmbdniaa", sum := "55ab4703e00684a5134c31010e7121674016104aa01fdcbfbd989c6c1ee31b99", checked := Try.checked }
namespace Rows
def none {H : Type} : Left H := { results := [], args := [] }

/-- 'breadlinelaw09.ShiftAlone': WHATEVER THE INPUT: true; the input reads as it did. -/
def shiftAloneSpec : ChangeSpec := { name := "shiftAlone", fn := fun _ => fun
  | [d1, d2, d3, d4] => { results := [.lit (.bool true)], args := [d1, d2, d3, d4] }
  | _ => none }
def shiftAloneRow : OpenClaim := { program := "ytonekdolmbdniaa", sum := "55ab4703e00684a5134c31010e7121674016104aa01fdcbfbd989c6c1ee31b99", func := "breadline/breadlinelaw09.ShiftAlone", spec := "shiftAlone", unfollowed := true, recurses := true, apart := false }
def ShiftAloneSaid : Prop := shiftAloneRow.holds Try.pinned (OpenSpec.ofChange shiftAloneSpec)

/-- ITS FALSE NEIGHBOUR: 'it returns false'. Refute it at one input. -/
def shiftAloneWrong : ChangeSpec := { name := "shiftAlone", fn := fun _ => fun
  | [d1, d2, d3, d4] => { results := [.lit (.bool false)], args := [d1, d2, d3, d4] }
  | _ => none }
def ShiftAloneWrongFalsely : Prop := shiftAloneRow.holds Try.pinned (OpenSpec.ofChange shiftAloneWrong)

/-- 'breadlinelaw09.ShiftBack': WHATEVER THE INPUT: true; the input reads as it did. -/
def shiftBackSpec : ChangeSpec := { name := "shiftBack", fn := fun _ => fun
  | [d1, d2] => { results := [.lit (.bool true)], args := [d1, d2] }
  | _ => none }
def shiftBackRow : OpenClaim := { program := "ytonekdolmbdniaa", sum := "55ab4703e00684a5134c31010e7121674016104aa01fdcbfbd989c6c1ee31b99", func := "breadline/breadlinelaw09.ShiftBack", spec := "shiftBack", unfollowed := true, recurses := true, apart := false }
def ShiftBackSaid : Prop := shiftBackRow.holds Try.pinned (OpenSpec.ofChange shiftBackSpec)

/-- ITS FALSE NEIGHBOUR: 'it returns false'. Refute it at one input. -/
def shiftBackWrong : ChangeSpec := { name := "shiftBack", fn := fun _ => fun
  | [d1, d2] => { results := [.lit (.bool false)], args := [d1, d2] }
  | _ => none }
def ShiftBackWrongFalsely : Prop := shiftBackRow.holds Try.pinned (OpenSpec.ofChange shiftBackWrong)

/-- 'breadlinelaw09.ShiftTwo': WHATEVER THE INPUT: true; the input reads as it did. -/
def shiftTwoSpec : ChangeSpec := { name := "shiftTwo", fn := fun _ => fun
  | [d1, d2, d3, d4] => { results := [.lit (.bool true)], args := [d1, d2, d3, d4] }
  | _ => none }
def shiftTwoRow : OpenClaim := { program := "ytonekdolmbdniaa", sum := "55ab4703e00684a5134c31010e7121674016104aa01fdcbfbd989c6c1ee31b99", func := "breadline/breadlinelaw09.ShiftTwo", spec := "shiftTwo", unfollowed := true, recurses := true, apart := false }
def ShiftTwoSaid : Prop := shiftTwoRow.holds Try.pinned (OpenSpec.ofChange shiftTwoSpec)

/-- ITS FALSE NEIGHBOUR: 'it returns false'. Refute it at one input. -/
def shiftTwoWrong : ChangeSpec := { name := "shiftTwo", fn := fun _ => fun
  | [d1, d2, d3, d4] => { results := [.lit (.bool false)], args := [d1, d2, d3, d4] }
  | _ => none }
def ShiftTwoWrongFalsely : Prop := shiftTwoRow.holds Try.pinned (OpenSpec.ofChange shiftTwoWrong)

/-- 'breadlinelaw09.ShiftTells': WHATEVER THE INPUT: true; the input reads as it did. -/
def shiftTellsSpec : ChangeSpec := { name := "shiftTells", fn := fun _ => fun
  | [d1, d2, d3, d4, d5] => { results := [.lit (.bool true)], args := [d1, d2, d3, d4, d5] }
  | _ => none }
def shiftTellsRow : OpenClaim := { program := "ytonekdolmbdniaa", sum := "55ab4703e00684a5134c31010e7121674016104aa01fdcbfbd989c6c1ee31b99", func := "breadline/breadlinelaw09.ShiftTells", spec := "shiftTells", unfollowed := true, recurses := true, apart := false }
def ShiftTellsSaid : Prop := shiftTellsRow.holds Try.pinned (OpenSpec.ofChange shiftTellsSpec)

/-- ITS FALSE NEIGHBOUR: 'it returns false'. Refute it at one input. -/
def shiftTellsWrong : ChangeSpec := { name := "shiftTells", fn := fun _ => fun
  | [d1, d2, d3, d4, d5] => { results := [.lit (.bool false)], args := [d1, d2, d3, d4, d5] }
  | _ => none }
def ShiftTellsWrongFalsely : Prop := shiftTellsRow.holds Try.pinned (OpenSpec.ofChange shiftTellsWrong)

/-- 'breadlinelaw09.ShiftBoth': WHATEVER THE INPUT: true; the input reads as it did. -/
def shiftBothSpec : ChangeSpec := { name := "shiftBoth", fn := fun _ => fun
  | [d1, d2, d3, d4] => { results := [.lit (.bool true)], args := [d1, d2, d3, d4] }
  | _ => none }
def shiftBothRow : OpenClaim := { program := "ytonekdolmbdniaa", sum := "55ab4703e00684a5134c31010e7121674016104aa01fdcbfbd989c6c1ee31b99", func := "breadline/breadlinelaw09.ShiftBoth", spec := "shiftBoth", unfollowed := true, recurses := true, apart := false }
def ShiftBothSaid : Prop := shiftBothRow.holds Try.pinned (OpenSpec.ofChange shiftBothSpec)

/-- ITS FALSE NEIGHBOUR: 'it returns false'. Refute it at one input. -/
def shiftBothWrong : ChangeSpec := { name := "shiftBoth", fn := fun _ => fun
  | [d1, d2, d3, d4] => { results := [.lit (.bool false)], args := [d1, d2, d3, d4] }
  | _ => none }
def ShiftBothWrongFalsely : Prop := shiftBothRow.holds Try.pinned (OpenSpec.ofChange shiftBothWrong)

/-- 'breadlinelaw09.ShiftNever': WHATEVER THE INPUT: true; the input reads as it did. -/
def shiftNeverSpec : ChangeSpec := { name := "shiftNever", fn := fun _ => fun
  | [d1, d2, d3, d4] => { results := [.lit (.bool true)], args := [d1, d2, d3, d4] }
  | _ => none }
def shiftNeverRow : OpenClaim := { program := "ytonekdolmbdniaa", sum := "55ab4703e00684a5134c31010e7121674016104aa01fdcbfbd989c6c1ee31b99", func := "breadline/breadlinelaw09.ShiftNever", spec := "shiftNever", unfollowed := true, recurses := true, apart := false }
def ShiftNeverSaid : Prop := shiftNeverRow.holds Try.pinned (OpenSpec.ofChange shiftNeverSpec)

/-- ITS FALSE NEIGHBOUR: 'it returns false'. Refute it at one input. -/
def shiftNeverWrong : ChangeSpec := { name := "shiftNever", fn := fun _ => fun
  | [d1, d2, d3, d4] => { results := [.lit (.bool false)], args := [d1, d2, d3, d4] }
  | _ => none }
def ShiftNeverWrongFalsely : Prop := shiftNeverRow.holds Try.pinned (OpenSpec.ofChange shiftNeverWrong)

/- THE SECOND FORM. 'bulk': how many values and letters a reading holds, each counted each time it is reached (what is shared counts as often as it is met; a slice's spare places count too). A statement '..UptoSaid' is the law's where the arguments, and the package variables that the reading takes, are together of bulk at most 1048576: NARROWER than '..Said'. Prove '..Said' where nothing that the law and all that it calls make is longer than what came in: it says more and counts as full. Else prove '..UptoSaid'. A law counts once. -/
mutual
def uptoBulk {H : Type} : DataW H → Nat
  | .lit (.string bytes) => bytes.length + 1
  | .lit _ => 1
  | .nil => 1
  | .ptr d => uptoBulk d + 1
  | .slice elems spare => uptoBulkAll elems + uptoBulkAll spare + 1
  | .agg parts => uptoBulkAll parts + 1
  | .iface _ d => uptoBulk d + 1
  | .map entries => uptoBulkEntries entries + 1
  | .held _ => 1
def uptoBulkAll {H : Type} : List (DataW H) → Nat
  | [] => 0
  | d :: r => uptoBulk d + uptoBulkAll r
def uptoBulkEntries {H : Type} : List (Lit × DataW H) → Nat
  | [] => 0
  | x :: r => uptoBulkEntry x + uptoBulkEntries r
def uptoBulkEntry {H : Type} : Lit × DataW H → Nat
  | (.string bytes, d) => bytes.length + uptoBulk d + 1
  | (_, d) => uptoBulk d + 1
 end
def uptoSmall : (H : Type) → List (DataW H) → Bool := fun _ ds => decide (uptoBulkAll ds ≤ 1048576)
def OpenSpec.upto (s : _root_.Go.ChangeSpec) : _root_.Go.OpenSpec := { _root_.Go.OpenSpec.ofChange s with cond := some uptoSmall }

/-- 'breadlinelaw09.ShiftAlone', WHERE WHAT IT READS IS OF BULK AT MOST 1048576: true; the input reads as it did. -/
def shiftAloneUptoRow : OpenClaim := { program := "ytonekdolmbdniaa", sum := "55ab4703e00684a5134c31010e7121674016104aa01fdcbfbd989c6c1ee31b99", func := "breadline/breadlinelaw09.ShiftAlone", spec := "shiftAlone", unfollowed := true, recurses := true, apart := false, narrowed := true }
def ShiftAloneUptoSaid : Prop := shiftAloneUptoRow.holds Try.pinned (OpenSpec.upto shiftAloneSpec)

/-- 'breadlinelaw09.ShiftBack', WHERE WHAT IT READS IS OF BULK AT MOST 1048576: true; the input reads as it did. -/
def shiftBackUptoRow : OpenClaim := { program := "ytonekdolmbdniaa", sum := "55ab4703e00684a5134c31010e7121674016104aa01fdcbfbd989c6c1ee31b99", func := "breadline/breadlinelaw09.ShiftBack", spec := "shiftBack", unfollowed := true, recurses := true, apart := false, narrowed := true }
def ShiftBackUptoSaid : Prop := shiftBackUptoRow.holds Try.pinned (OpenSpec.upto shiftBackSpec)

/-- 'breadlinelaw09.ShiftTwo', WHERE WHAT IT READS IS OF BULK AT MOST 1048576: true; the input reads as it did. -/
def shiftTwoUptoRow : OpenClaim := { program := "ytonekdolmbdniaa", sum := "55ab4703e00684a5134c31010e7121674016104aa01fdcbfbd989c6c1ee31b99", func := "breadline/breadlinelaw09.ShiftTwo", spec := "shiftTwo", unfollowed := true, recurses := true, apart := false, narrowed := true }
def ShiftTwoUptoSaid : Prop := shiftTwoUptoRow.holds Try.pinned (OpenSpec.upto shiftTwoSpec)

/-- 'breadlinelaw09.ShiftTells', WHERE WHAT IT READS IS OF BULK AT MOST 1048576: true; the input reads as it did. -/
def shiftTellsUptoRow : OpenClaim := { program := "ytonekdolmbdniaa", sum := "55ab4703e00684a5134c31010e7121674016104aa01fdcbfbd989c6c1ee31b99", func := "breadline/breadlinelaw09.ShiftTells", spec := "shiftTells", unfollowed := true, recurses := true, apart := false, narrowed := true }
def ShiftTellsUptoSaid : Prop := shiftTellsUptoRow.holds Try.pinned (OpenSpec.upto shiftTellsSpec)

/-- 'breadlinelaw09.ShiftBoth', WHERE WHAT IT READS IS OF BULK AT MOST 1048576: true; the input reads as it did. -/
def shiftBothUptoRow : OpenClaim := { program := "ytonekdolmbdniaa", sum := "55ab4703e00684a5134c31010e7121674016104aa01fdcbfbd989c6c1ee31b99", func := "breadline/breadlinelaw09.ShiftBoth", spec := "shiftBoth", unfollowed := true, recurses := true, apart := false, narrowed := true }
def ShiftBothUptoSaid : Prop := shiftBothUptoRow.holds Try.pinned (OpenSpec.upto shiftBothSpec)

/-- 'breadlinelaw09.ShiftNever', WHERE WHAT IT READS IS OF BULK AT MOST 1048576: true; the input reads as it did. -/
def shiftNeverUptoRow : OpenClaim := { program := "ytonekdolmbdniaa", sum := "55ab4703e00684a5134c31010e7121674016104aa01fdcbfbd989c6c1ee31b99", func := "breadline/breadlinelaw09.ShiftNever", spec := "shiftNever", unfollowed := true, recurses := true, apart := false, narrowed := true }
def ShiftNeverUptoSaid : Prop := shiftNeverUptoRow.holds Try.pinned (OpenSpec.upto shiftNeverSpec)

end Rows
end Go.Proofs.Ytonekdolmbdniaa
