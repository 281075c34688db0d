/- Counts and glances one behind the other, alone. -/
import Derived.Test.YtlkniogapdhcpaaSnapE
import Derived.Test.YtlkniogapdhcpaaLawSixE
import Derived.Test.YtlkniogapdhcpaaAddL
namespace Go.Proofs.Ytlkniogapdhcpaa
open Go.RowKit
set_option linter.unusedVariables false
set_option linter.unusedSimpArgs false
theorem SnR.wl {b s : Nat} {R : Nat → Prop} {w : World} {x : Nat} {W0 : List Int} {L0 : List Acc} {l : Int} {g : List Int} {n : Int} {e f : Bool} (h : SnR b s R w x ⟨W0, L0, l, g, n, e, f⟩) (W : List Int) (L : List Acc) : SnR b s R w x ⟨W, L, l, g, n, e, f⟩ := ⟨h.lt, h.rx, h.at_⟩
theorem PkR.wl {b : Nat} {R : Nat → Prop} {w : World} {x : Nat} {W0 : List Int} {L0 : List Acc} {l : Int} {g : List Int} {n : Int} {e f : Bool} (h : PkR b R w x ⟨W0, L0, l, g, n, e, f⟩) (W : List Int) (L : List Acc) : PkR b R w x ⟨W, L, l, g, n, e, f⟩ := ⟨h.lt, h.rx, h.at_⟩
theorem calm1 (W : List Int) (L : List Acc) (b s k : Nat) (hs : 1 ≤ s ∧ s ≤ 8) (h1 : rd W (b + 1) = rd W (b + 2)) (hk : 4 + 2 * s ≤ k) : ∃ t, playF (nStp b s) nPk W.length [] k 0 ⟨W, L, 1, [], 0, false, false⟩ = (t, 4 + 2 * s, true) ∧ t.W = W ∧ t.n = sumN W b s ∧ t.ex = true ∧ t.L.length = L.length + (4 + 2 * s) := by
  obtain ⟨t, h2, h3⟩ := calm_run W b s 1 k W.length L hs h1 hk
  have h4 := nPlay_count b s W.length [] k 0 ⟨W, L, 1, [], 0, false, false⟩ rfl
  have h2' : playF (nStp b s) nPk W.length [] k 0 ⟨W, L, 1, [], 0, false, false⟩ = (t, 4 + 2 * s, true) := h2
  rw [h2'] at h4
  exact ⟨t, h2', h3.1, h3.2.1, h3.2.2, h4.log⟩
theorem glance1 (W : List Int) (L : List Acc) (b k : Nat) : playF (gStp b) nPk W.length [] (k + 1) 0 ⟨W, L, 0, [], 0, false, false⟩ = (⟨W, L ++ [⟨1, (b : Nat), rd W b, 0, false⟩], 0, [], rd W b, false, true⟩, 1, true) := rfl
theorem addplay_no {B : Nat} {w : World} {m a x : Nat} {lv : Value} {W : List Int} {L : List Acc} (hm : MemAt B w m a lv W L) {k : Nat} (h1 : ¬ MF m a lv k) (h2 : k ≠ x) (h3 : k < w.heap.size) : ¬ ((k = m ∨ k = a ∨ k = x ∨ lv.ownBlock = some k) ∨ w.heap.size ≤ k) := by
  rintro ((h | h | h | h) | h)
  · exact h1 (Or.inl h)
  · exact h1 (Or.inr (Or.inl h))
  · exact h2 h
  · exact h1 (Or.inr (Or.inr h))
  · omega
/-- what the law tells, in numbers -/
theorem twice_gap {W W2 : List Int} {b s g n : Nat} {d : Int} (hg : 1 ≤ g ∧ g ≤ 40) (hs : s ≤ 8) (hgl : -2147483648 ≤ rd W b ∧ rd W b ≤ 2147483647) (hd : -1048576 < d ∧ d < 1048576) (hG : GateAt W b s g) (h : Alone b s g d W W2 n) :
    sumN W b s = sP W b s ∧ sumN W2 b s = sP W b s + d ∧ -4294967296 ≤ sP W b s ∧ sP W b s ≤ 4294967296 ∧ -((s * (g - 1) : Nat) : Int) ≤ sP W b s + d - rd W2 b ∧ sP W b s + d - rd W2 b ≤ ((s * (g - 1) : Nat) : Int) := by
  have h1 := h.gl
  have h2 := sP_gate (h.gate hG) s (Nat.le_refl _)
  have h3 := sP_gate hG s (Nat.le_refl _)
  have hP : (s : Int) * ((g : Int) - 1) = ((s * (g - 1) : Nat) : Int) := by rw [Int.natCast_mul, Int.natCast_sub hg.1]; rfl
  have hb : s * (g - 1) ≤ 8 * 39 := Nat.mul_le_mul hs (by omega)
  have h4 := h.sum
  rw [hP] at h2 h3
  refine ⟨sumN_eq (by omega) s (by omega), ?_, by omega, by omega, by omega, by omega⟩
  rw [sumN_eq (by omega) s (by omega)]
  exact h4
end Go.Proofs.Ytlkniogapdhcpaa
