/- breadlinelaw03: right, done, want. -/
import Derived.Test.YtlkniogapdhcpaaRefOps
namespace Go.Proofs.Ytlkniogapdhcpaa
open Go.RowKit
set_option linter.unusedVariables false
set_option linter.unusedSimpArgs false

structure MOp where
  kind : Int
  w : Int
  a : Int
  b : Int
def MOp.cells (o : MOp) : List Value := [i64 o.kind, i64 o.w, i64 o.a, i64 o.b]
def MOp.ok (o : MOp) (n : Int) : Bool := decide (1 ≤ o.kind) && decide (o.kind ≤ 5) && decide (0 ≤ o.w) && decide (o.w < n)
def opW (o : MOp) (W : List Int) : List Int :=
  if o.kind = 1 then W else if o.kind = 2 then W.set o.w.toNat (wrap64 (rd W o.w.toNat + o.a)) else if o.kind = 3 then casW W o.w.toNat o.a o.b else W.set o.w.toNat o.a
def opX (o : MOp) (W : List Int) : Int := if o.kind = 1 then rd W o.w.toNat else if o.kind = 2 then wrap64 (rd W o.w.toNat + o.a) else 0
def opP (o : MOp) (W : List Int) : Bool := if o.kind = 3 then rd W o.w.toNat == o.a else false
def opL (o : MOp) (W : List Int) : List Acc :=
  if o.kind = 1 then [⟨1, o.w, rd W o.w.toNat, 0, false⟩] else if o.kind = 2 then [⟨2, o.w, o.a, wrap64 (rd W o.w.toNat + o.a), false⟩] else if o.kind = 3 then [⟨3, o.w, o.a, o.b, rd W o.w.toNat == o.a⟩] else if o.kind = 4 then [⟨4, o.w, o.a, 0, false⟩] else []
theorem opW_length (o : MOp) (W : List Int) : (opW o W).length = W.length := by
  unfold opW
  repeat (first | split | simp [casW_length])

section
variable {B : Nat} {w : World} {m a : Nat} {lv : Value} {W : List Int} {L : List Acc}
end

section
variable {B : Nat} {w : World} {m : Nat} {A : Option Addr} {c : Nat} {lv : Value} {W : List Int} {L : List Acc}
end
end Go.Proofs.Ytlkniogapdhcpaa
