/- (without the P.. facts of XGhost) What free values are: one property for each operation, kept by whatever keeps old blocks. -/
import Derived.Test.YtlkniogapdhcpaaRegionF
import Derived.Test.YtlkniogapdhcpaaLog
namespace Go.Proofs.Ytlkniogapdhcpaa
open Go.RowKit
set_option linter.unusedVariables false
set_option linter.unusedSimpArgs false

def GWI (D : Nat → Value → World → Prop) (S : Nat → Bool) (gh : Nat → Value) (w : World) : Prop := ∀ i, S i = true → D i (gh i) w
def Stable (D : Nat → Value → World → Prop) : Prop := ∀ i v w w', D i v w → Keep0 w w' → D i v w'
theorem GWI.start (D : Nat → Value → World → Prop) (gh : Nat → Value) (w : World) : GWI D (fun _ => false) gh w := fun _ h => by cases h
theorem GWI.keep {D : Nat → Value → World → Prop} {S : Nat → Bool} {gh : Nat → Value} {w w' : World} (h : GWI D S gh w) (hs : Stable D) (hk : Keep0 w w') : GWI D S gh w' := fun i hi => hs i _ _ _ (h i hi) hk
theorem GWI.fixed {D : Nat → Value → World → Prop} {S : Nat → Bool} {gh : Nat → Value} {w : World} (h : GWI D S gh w) {i : Nat} (hi : D i (gh i) w) : GWI D (upd S i) gh w := fun j hj => by
  by_cases e : j = i
  · subst e; exact hi
  · exact h j (by simpa [upd, e] using hj)
theorem GWI.free {D : Nat → Value → World → Prop} {S : Nat → Bool} {gh : Nat → Value} {w : World} (h : GWI D S gh w) {i : Nat} {u : Value} (hi : D i u w) : GWI D (upd S i) (updv gh i u) w := fun j hj => by
  by_cases e : j = i
  · subst e; rw [updv_same]; exact hi
  · rw [updv_ne e]; exact h j (by simpa [upd, e] using hj)

end Go.Proofs.Ytlkniogapdhcpaa
