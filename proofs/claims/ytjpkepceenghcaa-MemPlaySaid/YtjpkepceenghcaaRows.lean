/-
  No cell of these rows narrows 'for every input' (looked for: loops, veiled, ifaces, maps, wideKeys, modest, calm, conditions, laid).
  DERIVED. THE GIVEN ROWS OF THIS SEAT. 12 by the template 'for every input the law returns true; each argument reads behind the call as it read before'; 0 by the template 'total and deterministic' (their statements: YtjpkepceenghcaaTotals.lean).
  GIVEN WITH THE SEED: the statements are not yours to turn. If you find one false, say at which input.
  Laid BY PROGRAM, IN A SANDBOX (cutbox-rows.mjs): the forced cells as the released guide's own fill.sh prints them over the translation 001194609ceb9f9f… (all of the seat's roots in one cut). By AI agents, Wed Nov 11 2026. No macro, syntax, notation, axiom, sorry.
-/
import Derived.Test.YtjpkepceenghcaaChecked
import GoSem.Claim
import GoSem.ClaimJoined
import GoSem.ClaimMapViews
import Derived.JoinedTies
import Derived.KernelRfl
namespace Go.Proofs.Ytjpkepceenghcaa
/- THE CELL 'sum', in the pinned program and in every row, IS THE sha256 OF THE DUMP (.gsa) THAT YtjpkepceenghcaaProg.lean LOADS. Nothing in Lean hashes anything: it is a label: what it is worth is what the hold of that sum in a sandbox is worth. -/
noncomputable def Try.pinned : Pinned := { name := "ytjpkepceenghcaa", sum := "001194609ceb9f9f44e2e241335587389d7f5186b268e090dfd0a95835fede09", checked := Try.checked }
namespace Rows
def none {H : Type} : Left H := { results := [], args := [] }

/-- 'breadlinelaw05.PlanApart': WHATEVER THE INPUT: true; the input reads as it did. -/
def planApartSpec : ChangeSpec := { name := "planApart", fn := fun _ => fun
  | [d] => { results := [.lit (.bool true)], args := [d] }
  | _ => none }
def planApartRow : OpenClaim := { program := "ytjpkepceenghcaa", sum := "001194609ceb9f9f44e2e241335587389d7f5186b268e090dfd0a95835fede09", func := "breadline/breadlinelaw05.PlanApart", spec := "planApart", unfollowed := true, recurses := true, apart := false }
def PlanApartSaid : Prop := planApartRow.holds Try.pinned (OpenSpec.ofChange planApartSpec)

/-- ITS FALSE NEIGHBOUR: 'it returns false'. Refute it at one input. -/
def planApartWrong : ChangeSpec := { name := "planApart", fn := fun _ => fun
  | [d] => { results := [.lit (.bool false)], args := [d] }
  | _ => none }
def PlanApartWrongFalsely : Prop := planApartRow.holds Try.pinned (OpenSpec.ofChange planApartWrong)

/-- 'breadlinelaw05.PlanNodes': WHATEVER THE INPUT: true; the input reads as it did. -/
def planNodesSpec : ChangeSpec := { name := "planNodes", fn := fun _ => fun
  | [d1, d2, d3] => { results := [.lit (.bool true)], args := [d1, d2, d3] }
  | _ => none }
def planNodesRow : OpenClaim := { program := "ytjpkepceenghcaa", sum := "001194609ceb9f9f44e2e241335587389d7f5186b268e090dfd0a95835fede09", func := "breadline/breadlinelaw05.PlanNodes", spec := "planNodes", unfollowed := true, recurses := true, apart := false }
def PlanNodesSaid : Prop := planNodesRow.holds Try.pinned (OpenSpec.ofChange planNodesSpec)

/-- ITS FALSE NEIGHBOUR: 'it returns false'. Refute it at one input. -/
def planNodesWrong : ChangeSpec := { name := "planNodes", fn := fun _ => fun
  | [d1, d2, d3] => { results := [.lit (.bool false)], args := [d1, d2, d3] }
  | _ => none }
def PlanNodesWrongFalsely : Prop := planNodesRow.holds Try.pinned (OpenSpec.ofChange planNodesWrong)

/-- 'breadlinelaw05.PlanMore': WHATEVER THE INPUT: true; the input reads as it did. -/
def planMoreSpec : ChangeSpec := { name := "planMore", fn := fun _ => fun
  | [d1, d2, d3] => { results := [.lit (.bool true)], args := [d1, d2, d3] }
  | _ => none }
def planMoreRow : OpenClaim := { program := "ytjpkepceenghcaa", sum := "001194609ceb9f9f44e2e241335587389d7f5186b268e090dfd0a95835fede09", func := "breadline/breadlinelaw05.PlanMore", spec := "planMore", unfollowed := true, recurses := true, apart := false }
def PlanMoreSaid : Prop := planMoreRow.holds Try.pinned (OpenSpec.ofChange planMoreSpec)

/-- ITS FALSE NEIGHBOUR: 'it returns false'. Refute it at one input. -/
def planMoreWrong : ChangeSpec := { name := "planMore", fn := fun _ => fun
  | [d1, d2, d3] => { results := [.lit (.bool false)], args := [d1, d2, d3] }
  | _ => none }
def PlanMoreWrongFalsely : Prop := planMoreRow.holds Try.pinned (OpenSpec.ofChange planMoreWrong)

/-- 'breadlinelaw05.PlanNames': WHATEVER THE INPUT: true; the input reads as it did. -/
def planNamesSpec : ChangeSpec := { name := "planNames", fn := fun _ => fun
  | [d1, d2, d3] => { results := [.lit (.bool true)], args := [d1, d2, d3] }
  | _ => none }
def planNamesRow : OpenClaim := { program := "ytjpkepceenghcaa", sum := "001194609ceb9f9f44e2e241335587389d7f5186b268e090dfd0a95835fede09", func := "breadline/breadlinelaw05.PlanNames", spec := "planNames", unfollowed := true, recurses := true, apart := false }
def PlanNamesSaid : Prop := planNamesRow.holds Try.pinned (OpenSpec.ofChange planNamesSpec)

/-- ITS FALSE NEIGHBOUR: 'it returns false'. Refute it at one input. -/
def planNamesWrong : ChangeSpec := { name := "planNames", fn := fun _ => fun
  | [d1, d2, d3] => { results := [.lit (.bool false)], args := [d1, d2, d3] }
  | _ => none }
def PlanNamesWrongFalsely : Prop := planNamesRow.holds Try.pinned (OpenSpec.ofChange planNamesWrong)

/-- 'breadlinelaw05.PlanTells': WHATEVER THE INPUT: true; the input reads as it did. -/
def planTellsSpec : ChangeSpec := { name := "planTells", fn := fun _ => fun
  | [d1, d2, d3, d4] => { results := [.lit (.bool true)], args := [d1, d2, d3, d4] }
  | _ => none }
def planTellsRow : OpenClaim := { program := "ytjpkepceenghcaa", sum := "001194609ceb9f9f44e2e241335587389d7f5186b268e090dfd0a95835fede09", func := "breadline/breadlinelaw05.PlanTells", spec := "planTells", unfollowed := true, recurses := true, apart := false }
def PlanTellsSaid : Prop := planTellsRow.holds Try.pinned (OpenSpec.ofChange planTellsSpec)

/-- ITS FALSE NEIGHBOUR: 'it returns false'. Refute it at one input. -/
def planTellsWrong : ChangeSpec := { name := "planTells", fn := fun _ => fun
  | [d1, d2, d3, d4] => { results := [.lit (.bool false)], args := [d1, d2, d3, d4] }
  | _ => none }
def PlanTellsWrongFalsely : Prop := planTellsRow.holds Try.pinned (OpenSpec.ofChange planTellsWrong)

/-- 'breadlinelaw05.PlanFresh': WHATEVER THE INPUT: true; the input reads as it did. -/
def planFreshSpec : ChangeSpec := { name := "planFresh", fn := fun _ => fun
  | [d] => { results := [.lit (.bool true)], args := [d] }
  | _ => none }
def planFreshRow : OpenClaim := { program := "ytjpkepceenghcaa", sum := "001194609ceb9f9f44e2e241335587389d7f5186b268e090dfd0a95835fede09", func := "breadline/breadlinelaw05.PlanFresh", spec := "planFresh", unfollowed := true, recurses := true, apart := false }
def PlanFreshSaid : Prop := planFreshRow.holds Try.pinned (OpenSpec.ofChange planFreshSpec)

/-- ITS FALSE NEIGHBOUR: 'it returns false'. Refute it at one input. -/
def planFreshWrong : ChangeSpec := { name := "planFresh", fn := fun _ => fun
  | [d] => { results := [.lit (.bool false)], args := [d] }
  | _ => none }
def PlanFreshWrongFalsely : Prop := planFreshRow.holds Try.pinned (OpenSpec.ofChange planFreshWrong)

/-- 'breadlinelaw03.MemTells': WHATEVER THE INPUT: true; the input reads as it did. -/
def memTellsSpec : ChangeSpec := { name := "memTells", fn := fun _ => fun
  | [d1, d2] => { results := [.lit (.bool true)], args := [d1, d2] }
  | _ => none }
def memTellsRow : OpenClaim := { program := "ytjpkepceenghcaa", sum := "001194609ceb9f9f44e2e241335587389d7f5186b268e090dfd0a95835fede09", func := "breadline/breadlinelaw03.MemTells", spec := "memTells", unfollowed := true, recurses := true, apart := false }
def MemTellsSaid : Prop := memTellsRow.holds Try.pinned (OpenSpec.ofChange memTellsSpec)

/-- ITS FALSE NEIGHBOUR: 'it returns false'. Refute it at one input. -/
def memTellsWrong : ChangeSpec := { name := "memTells", fn := fun _ => fun
  | [d1, d2] => { results := [.lit (.bool false)], args := [d1, d2] }
  | _ => none }
def MemTellsWrongFalsely : Prop := memTellsRow.holds Try.pinned (OpenSpec.ofChange memTellsWrong)

/-- 'breadlinelaw03.MemOne': WHATEVER THE INPUT: true; the input reads as it did. -/
def memOneSpec : ChangeSpec := { name := "memOne", fn := fun _ => fun
  | [d1, d2] => { results := [.lit (.bool true)], args := [d1, d2] }
  | _ => none }
def memOneRow : OpenClaim := { program := "ytjpkepceenghcaa", sum := "001194609ceb9f9f44e2e241335587389d7f5186b268e090dfd0a95835fede09", func := "breadline/breadlinelaw03.MemOne", spec := "memOne", unfollowed := true, recurses := true, apart := false }
def MemOneSaid : Prop := memOneRow.holds Try.pinned (OpenSpec.ofChange memOneSpec)

/-- ITS FALSE NEIGHBOUR: 'it returns false'. Refute it at one input. -/
def memOneWrong : ChangeSpec := { name := "memOne", fn := fun _ => fun
  | [d1, d2] => { results := [.lit (.bool false)], args := [d1, d2] }
  | _ => none }
def MemOneWrongFalsely : Prop := memOneRow.holds Try.pinned (OpenSpec.ofChange memOneWrong)

/-- 'breadlinelaw03.MemLog': WHATEVER THE INPUT: true; the input reads as it did. -/
def memLogSpec : ChangeSpec := { name := "memLog", fn := fun _ => fun
  | [d1, d2] => { results := [.lit (.bool true)], args := [d1, d2] }
  | _ => none }
def memLogRow : OpenClaim := { program := "ytjpkepceenghcaa", sum := "001194609ceb9f9f44e2e241335587389d7f5186b268e090dfd0a95835fede09", func := "breadline/breadlinelaw03.MemLog", spec := "memLog", unfollowed := true, recurses := true, apart := false }
def MemLogSaid : Prop := memLogRow.holds Try.pinned (OpenSpec.ofChange memLogSpec)

/-- ITS FALSE NEIGHBOUR: 'it returns false'. Refute it at one input. -/
def memLogWrong : ChangeSpec := { name := "memLog", fn := fun _ => fun
  | [d1, d2] => { results := [.lit (.bool false)], args := [d1, d2] }
  | _ => none }
def MemLogWrongFalsely : Prop := memLogRow.holds Try.pinned (OpenSpec.ofChange memLogWrong)

/-- 'breadlinelaw03.MemPlay': WHATEVER THE INPUT: true; the input reads as it did. -/
def memPlaySpec : ChangeSpec := { name := "memPlay", fn := fun _ => fun
  | [d1, d2, d3] => { results := [.lit (.bool true)], args := [d1, d2, d3] }
  | _ => none }
def memPlayRow : OpenClaim := { program := "ytjpkepceenghcaa", sum := "001194609ceb9f9f44e2e241335587389d7f5186b268e090dfd0a95835fede09", func := "breadline/breadlinelaw03.MemPlay", spec := "memPlay", unfollowed := true, recurses := true, apart := false }
def MemPlaySaid : Prop := memPlayRow.holds Try.pinned (OpenSpec.ofChange memPlaySpec)

/-- ITS FALSE NEIGHBOUR: 'it returns false'. Refute it at one input. -/
def memPlayWrong : ChangeSpec := { name := "memPlay", fn := fun _ => fun
  | [d1, d2, d3] => { results := [.lit (.bool false)], args := [d1, d2, d3] }
  | _ => none }
def MemPlayWrongFalsely : Prop := memPlayRow.holds Try.pinned (OpenSpec.ofChange memPlayWrong)

/-- 'breadlinelaw03.MemApart': WHATEVER THE INPUT: true; the input reads as it did. -/
def memApartSpec : ChangeSpec := { name := "memApart", fn := fun _ => fun
  | [d1, d2] => { results := [.lit (.bool true)], args := [d1, d2] }
  | _ => none }
def memApartRow : OpenClaim := { program := "ytjpkepceenghcaa", sum := "001194609ceb9f9f44e2e241335587389d7f5186b268e090dfd0a95835fede09", func := "breadline/breadlinelaw03.MemApart", spec := "memApart", unfollowed := true, recurses := true, apart := false }
def MemApartSaid : Prop := memApartRow.holds Try.pinned (OpenSpec.ofChange memApartSpec)

/-- ITS FALSE NEIGHBOUR: 'it returns false'. Refute it at one input. -/
def memApartWrong : ChangeSpec := { name := "memApart", fn := fun _ => fun
  | [d1, d2] => { results := [.lit (.bool false)], args := [d1, d2] }
  | _ => none }
def MemApartWrongFalsely : Prop := memApartRow.holds Try.pinned (OpenSpec.ofChange memApartWrong)

/-- 'breadlinelaw03.MemCas': WHATEVER THE INPUT: true; the input reads as it did. -/
def memCasSpec : ChangeSpec := { name := "memCas", fn := fun _ => fun
  | [d1, d2] => { results := [.lit (.bool true)], args := [d1, d2] }
  | _ => none }
def memCasRow : OpenClaim := { program := "ytjpkepceenghcaa", sum := "001194609ceb9f9f44e2e241335587389d7f5186b268e090dfd0a95835fede09", func := "breadline/breadlinelaw03.MemCas", spec := "memCas", unfollowed := true, recurses := true, apart := false }
def MemCasSaid : Prop := memCasRow.holds Try.pinned (OpenSpec.ofChange memCasSpec)

/-- ITS FALSE NEIGHBOUR: 'it returns false'. Refute it at one input. -/
def memCasWrong : ChangeSpec := { name := "memCas", fn := fun _ => fun
  | [d1, d2] => { results := [.lit (.bool false)], args := [d1, d2] }
  | _ => none }
def MemCasWrongFalsely : Prop := memCasRow.holds Try.pinned (OpenSpec.ofChange memCasWrong)

/- THE SECOND FORM. 'bulk': how many values and letters a reading holds, each counted each time it is reached (what is shared counts as often as it is met; a slice's spare places count too). A statement '..UptoSaid' is the law's where the arguments, and the package variables that the reading takes, are together of bulk at most 1048576: NARROWER than '..Said'. Prove '..Said' where nothing that the law and all that it calls make is longer than what came in: it says more and counts as full. Else prove '..UptoSaid'. A law counts once. -/
mutual
def uptoBulk {H : Type} : DataW H → Nat
  | .lit (.string bytes) => bytes.length + 1
  | .lit _ => 1
  | .nil => 1
  | .ptr d => uptoBulk d + 1
  | .slice elems spare => uptoBulkAll elems + uptoBulkAll spare + 1
  | .agg parts => uptoBulkAll parts + 1
  | .iface _ d => uptoBulk d + 1
  | .map entries => uptoBulkEntries entries + 1
  | .held _ => 1
def uptoBulkAll {H : Type} : List (DataW H) → Nat
  | [] => 0
  | d :: r => uptoBulk d + uptoBulkAll r
def uptoBulkEntries {H : Type} : List (Lit × DataW H) → Nat
  | [] => 0
  | x :: r => uptoBulkEntry x + uptoBulkEntries r
def uptoBulkEntry {H : Type} : Lit × DataW H → Nat
  | (.string bytes, d) => bytes.length + uptoBulk d + 1
  | (_, d) => uptoBulk d + 1
 end
def uptoSmall : (H : Type) → List (DataW H) → Bool := fun _ ds => decide (uptoBulkAll ds ≤ 1048576)
def OpenSpec.upto (s : _root_.Go.ChangeSpec) : _root_.Go.OpenSpec := { _root_.Go.OpenSpec.ofChange s with cond := some uptoSmall }

/-- 'breadlinelaw05.PlanApart', WHERE WHAT IT READS IS OF BULK AT MOST 1048576: true; the input reads as it did. -/
def planApartUptoRow : OpenClaim := { program := "ytjpkepceenghcaa", sum := "001194609ceb9f9f44e2e241335587389d7f5186b268e090dfd0a95835fede09", func := "breadline/breadlinelaw05.PlanApart", spec := "planApart", unfollowed := true, recurses := true, apart := false, narrowed := true }
def PlanApartUptoSaid : Prop := planApartUptoRow.holds Try.pinned (OpenSpec.upto planApartSpec)

/-- 'breadlinelaw05.PlanNodes', WHERE WHAT IT READS IS OF BULK AT MOST 1048576: true; the input reads as it did. -/
def planNodesUptoRow : OpenClaim := { program := "ytjpkepceenghcaa", sum := "001194609ceb9f9f44e2e241335587389d7f5186b268e090dfd0a95835fede09", func := "breadline/breadlinelaw05.PlanNodes", spec := "planNodes", unfollowed := true, recurses := true, apart := false, narrowed := true }
def PlanNodesUptoSaid : Prop := planNodesUptoRow.holds Try.pinned (OpenSpec.upto planNodesSpec)

/-- 'breadlinelaw05.PlanMore', WHERE WHAT IT READS IS OF BULK AT MOST 1048576: true; the input reads as it did. -/
def planMoreUptoRow : OpenClaim := { program := "ytjpkepceenghcaa", sum := "001194609ceb9f9f44e2e241335587389d7f5186b268e090dfd0a95835fede09", func := "breadline/breadlinelaw05.PlanMore", spec := "planMore", unfollowed := true, recurses := true, apart := false, narrowed := true }
def PlanMoreUptoSaid : Prop := planMoreUptoRow.holds Try.pinned (OpenSpec.upto planMoreSpec)

/-- 'breadlinelaw05.PlanNames', WHERE WHAT IT READS IS OF BULK AT MOST 1048576: true; the input reads as it did. -/
def planNamesUptoRow : OpenClaim := { program := "ytjpkepceenghcaa", sum := "001194609ceb9f9f44e2e241335587389d7f5186b268e090dfd0a95835fede09", func := "breadline/breadlinelaw05.PlanNames", spec := "planNames", unfollowed := true, recurses := true, apart := false, narrowed := true }
def PlanNamesUptoSaid : Prop := planNamesUptoRow.holds Try.pinned (OpenSpec.upto planNamesSpec)

/-- 'breadlinelaw05.PlanTells', WHERE WHAT IT READS IS OF BULK AT MOST 1048576: true; the input reads as it did. -/
def planTellsUptoRow : OpenClaim := { program := "ytjpkepceenghcaa", sum := "001194609ceb9f9f44e2e241335587389d7f5186b268e090dfd0a95835fede09", func := "breadline/breadlinelaw05.PlanTells", spec := "planTells", unfollowed := true, recurses := true, apart := false, narrowed := true }
def PlanTellsUptoSaid : Prop := planTellsUptoRow.holds Try.pinned (OpenSpec.upto planTellsSpec)

/-- 'breadlinelaw05.PlanFresh', WHERE WHAT IT READS IS OF BULK AT MOST 1048576: true; the input reads as it did. -/
def planFreshUptoRow : OpenClaim := { program := "ytjpkepceenghcaa", sum := "001194609ceb9f9f44e2e241335587389d7f5186b268e090dfd0a95835fede09", func := "breadline/breadlinelaw05.PlanFresh", spec := "planFresh", unfollowed := true, recurses := true, apart := false, narrowed := true }
def PlanFreshUptoSaid : Prop := planFreshUptoRow.holds Try.pinned (OpenSpec.upto planFreshSpec)

/-- 'breadlinelaw03.MemTells', WHERE WHAT IT READS IS OF BULK AT MOST 1048576: true; the input reads as it did. -/
def memTellsUptoRow : OpenClaim := { program := "ytjpkepceenghcaa", sum := "001194609ceb9f9f44e2e241335587389d7f5186b268e090dfd0a95835fede09", func := "breadline/breadlinelaw03.MemTells", spec := "memTells", unfollowed := true, recurses := true, apart := false, narrowed := true }
def MemTellsUptoSaid : Prop := memTellsUptoRow.holds Try.pinned (OpenSpec.upto memTellsSpec)

/-- 'breadlinelaw03.MemOne', WHERE WHAT IT READS IS OF BULK AT MOST 1048576: true; the input reads as it did. -/
def memOneUptoRow : OpenClaim := { program := "ytjpkepceenghcaa", sum := "001194609ceb9f9f44e2e241335587389d7f5186b268e090dfd0a95835fede09", func := "breadline/breadlinelaw03.MemOne", spec := "memOne", unfollowed := true, recurses := true, apart := false, narrowed := true }
def MemOneUptoSaid : Prop := memOneUptoRow.holds Try.pinned (OpenSpec.upto memOneSpec)

/-- 'breadlinelaw03.MemLog', WHERE WHAT IT READS IS OF BULK AT MOST 1048576: true; the input reads as it did. -/
def memLogUptoRow : OpenClaim := { program := "ytjpkepceenghcaa", sum := "001194609ceb9f9f44e2e241335587389d7f5186b268e090dfd0a95835fede09", func := "breadline/breadlinelaw03.MemLog", spec := "memLog", unfollowed := true, recurses := true, apart := false, narrowed := true }
def MemLogUptoSaid : Prop := memLogUptoRow.holds Try.pinned (OpenSpec.upto memLogSpec)

/-- 'breadlinelaw03.MemPlay', WHERE WHAT IT READS IS OF BULK AT MOST 1048576: true; the input reads as it did. -/
def memPlayUptoRow : OpenClaim := { program := "ytjpkepceenghcaa", sum := "001194609ceb9f9f44e2e241335587389d7f5186b268e090dfd0a95835fede09", func := "breadline/breadlinelaw03.MemPlay", spec := "memPlay", unfollowed := true, recurses := true, apart := false, narrowed := true }
def MemPlayUptoSaid : Prop := memPlayUptoRow.holds Try.pinned (OpenSpec.upto memPlaySpec)

/-- 'breadlinelaw03.MemApart', WHERE WHAT IT READS IS OF BULK AT MOST 1048576: true; the input reads as it did. -/
def memApartUptoRow : OpenClaim := { program := "ytjpkepceenghcaa", sum := "001194609ceb9f9f44e2e241335587389d7f5186b268e090dfd0a95835fede09", func := "breadline/breadlinelaw03.MemApart", spec := "memApart", unfollowed := true, recurses := true, apart := false, narrowed := true }
def MemApartUptoSaid : Prop := memApartUptoRow.holds Try.pinned (OpenSpec.upto memApartSpec)

/-- 'breadlinelaw03.MemCas', WHERE WHAT IT READS IS OF BULK AT MOST 1048576: true; the input reads as it did. -/
def memCasUptoRow : OpenClaim := { program := "ytjpkepceenghcaa", sum := "001194609ceb9f9f44e2e241335587389d7f5186b268e090dfd0a95835fede09", func := "breadline/breadlinelaw03.MemCas", spec := "memCas", unfollowed := true, recurses := true, apart := false, narrowed := true }
def MemCasUptoSaid : Prop := memCasUptoRow.holds Try.pinned (OpenSpec.upto memCasSpec)

end Rows
end Go.Proofs.Ytjpkepceenghcaa
