/- package pool: either, priced, step, Step, Ans, New. -/
import Derived.Test.YtonekdolmbdniaaPoolQ
import Derived.Test.YtonekdolmbdniaaPlan
import Derived.Test.YtonekdolmbdniaaRegion
import Derived.Deep.RegionLaw
namespace Go.Proofs.Ytonekdolmbdniaa
open Go.RowKit
set_option linter.unusedVariables false
set_option linter.unusedSimpArgs false
set_option maxRecDepth 100000

def pcs (av le : Nat) (nd n lim : Int) (nx : Nat) (t : PS) : List Value := [i64 av, i64 le, i64 nd, i64 n, i64 lim, i64 nx, i64 t.had, i64 t.saw, i64 t.extra, i64 (if t.bad = true then 4 else 0), i64 0, .bool false, i64 (if t.bad = true then nd else 0)]

theorem wrap64_in (n : Int) (h : -9223372036854775808 ≤ n ∧ n ≤ 9223372036854775807) : wrap64 n = n := by unfold wrap64; omega
section
variable {B : Nat} {w : World} {m a x : Nat} {lv : Value} {av le : Nat} {nd n lim X : Int}
theorem mem_CasN {W : List Int} {L : List Acc} (i : Nat) (old y : Int) (hm : MemAt B w m a lv W L) (hi : i < W.length) (hL : L.length ≤ 1000000000) :
    Calls Try.prog 64 #[ptr m, i64 i, i64 old, i64 y] w fun e w' => e = .returned (.bool (rd W i == old)) ∧ MemPost B w m a lv (casW W i old y) (L ++ [⟨3, i, old, y, rd W i == old⟩]) w' := by
  have h := mem_Cas (i : Int) old y hm (by omega) (by omega) hL
  rwa [Int.toNat_natCast] at h
end
end Go.Proofs.Ytonekdolmbdniaa
