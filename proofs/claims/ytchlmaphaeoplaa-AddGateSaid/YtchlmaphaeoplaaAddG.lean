/- The gate, kept at each step of a machine of layer 6, in plain Lean. -/
import Derived.Test.YtchlmaphaeoplaaAddL
namespace Go.Proofs.Ytchlmaphaeoplaa
open Go.RowKit
set_option linter.unusedVariables false
set_option linter.unusedSimpArgs false
theorem GateAt.cas {W : List Int} {b s : Nat} {g : Int} (h : GateAt W b s g) (j : Nat) (a y : Int) (hy : -g < pVal y ∧ pVal y < g) : GateAt (casW W j a y) b s g := by
  unfold casW
  split
  · exact h.set _ _ (fun _ => hy)
  · exact h
theorem GateAt.casl {W : List Int} {b s : Nat} {g : Int} (h : GateAt W b s g) (j : Nat) (a y : Int) (hj : j < b + 4) : GateAt (casW W j a y) b s g := by
  unfold casW
  split
  · exact h.set _ _ (fun h => by omega)
  · exact h
theorem GateAt.step {b s : Nat} {g d : Int} {t : AS} (h : AInv b s g d t) (hG : GateAt t.W b s g) : GateAt (aNext b s g d t).W b s g := by
  obtain ⟨W, L, st, x, lv, sp, w, v⟩ := t
  obtain ⟨ln, wl, s1, g1, d1, lw, xb, nx, lb, pb, vb, gr⟩ := h
  simp only at *
  rcases st_cases nx with rfl | rfl | rfl | rfl | rfl | rfl | rfl | rfl | rfl | rfl
  · exact hG
  · exact hG
  · have hv := vb rfl
    have hc : GateAt (casW W sp w (pNext6 w v)) b s g := hG.cas _ _ _ (by rw [pVal_next _ _ (by omega)]; exact hv)
    by_cases hq : rd W sp = w
    · have e : (aNext b s g d ⟨W, L, 2, x, lv, sp, w, v⟩).W = casW W sp w (pNext6 w v) := by simp [aNext, hq]
      rw [e]; exact hc
    · have e : (aNext b s g d ⟨W, L, 2, x, lv, sp, w, v⟩).W = casW W sp w (pNext6 w v) := by simp [aNext, hq, aMiss_W]
      rw [e]; exact hc
  · exact hG.set _ _ (fun h => by omega)
  · exact hG.cas _ _ _ (by rw [pVal_zero]; omega)
  · exact hG.set _ _ (fun h => by omega)
  · exact hG.set _ _ (fun h => by omega)
  · have e : (aNext b s g d ⟨W, L, 7, x, lv, sp, w, v⟩).W = W.set (b + 2) (wrap64 (rd W (b + 2) + 1)) := by simp [aNext, aMiss_W]
    rw [e]
    exact hG.set _ _ (fun h => by omega)
  · exact hG.casl _ _ _ (by omega)
  · rw [aNext_over rfl]; exact hG
/-- what holds ahead of step n -/
structure GI (b s : Nat) (g d : Int) (N : Nat) (t : AS) (n : Nat) : Prop where
  inv : AInv b s g d t
  gate : GateAt t.W b s g
  ln : t.W.length = N
  lg : t.L.length = n
theorem GI.poke {b s N n : Nat} {g d : Int} {t : AS} (h : GI b s g d N t n) (i : Nat) (y : Int) (h1 : i = b + 3 → p2 y ∧ y ≤ s) (h2 : b + 4 ≤ i ∧ i < b + 4 + s → -g < pVal y ∧ pVal y < g) : GI b s g d N (aPk t i y) n :=
  ⟨h.inv.poke i y h1, h.gate.set i y h2, by simp [aPk, h.ln], h.lg⟩
theorem GI.step {b s N n : Nat} {g d : Int} {t : AS} (h : GI b s g d N t n) (h9 : t.st < 9) : GI b s g d N (aNext b s g d t) (n + 1) :=
  ⟨h.inv.step, GateAt.step h.inv h.gate, (aNext_len t).trans h.ln, by rw [aNext_log t h9, h.lg]⟩
theorem and_p2 {x : Int} (h : p2 x) : bits BinOp.and IntKind.i64 x (x - 1) = 0 := by
  rcases h with rfl | rfl | rfl | rfl <;> decide
end Go.Proofs.Ytchlmaphaeoplaa
