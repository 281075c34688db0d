/- What a machine of layer 11 computes, in plain Lean: K tickets, from s on; the words of tickets lie from q on, two each. -/
import Derived.Test.YtjloccnbcgkmgaaPack
import Derived.Test.YtjloccnbcgkmgaaPlay
import Derived.Test.YtjloccnbcgkmgaaPoolP
namespace Go.Proofs.Ytjloccnbcgkmgaa
open Go.RowKit
set_option linter.unusedVariables false
set_option linter.unusedSimpArgs false
/-- j tickets were passed; fin: 1: it has ticket n, 2: there is none -/
structure CS where
  W : List Int
  L : List Acc
  j : Nat
  seen : Bool
  saw : Int
  set : Int
  fin : Nat
  n : Nat
def st10 (x : Int) : Int := if 0 ≤ pVal x ∧ pVal x ≤ 3 then pVal x else -1
def ck (K s j : Nat) : Nat := (s + j) % K
section
variable (K s q : Nat)
def cNx (t : CS) : CS := { t with j := t.j + 1, seen := false, fin := if t.j + 1 = K then 2 else 0 }
def cLook (t : CS) : CS := { t with saw := rd t.W (q + 2 * ck K s t.j), seen := true, L := t.L ++ [⟨1, (q + 2 * ck K s t.j : Nat), rd t.W (q + 2 * ck K s t.j), 0, false⟩] }
def cTake (t : CS) : CS := { t with W := casW t.W (q + 2 * ck K s t.j) t.saw (pNext6 t.saw 1), L := t.L ++ [⟨3, (q + 2 * ck K s t.j : Nat), t.saw, pNext6 t.saw 1, rd t.W (q + 2 * ck K s t.j) == t.saw⟩] }
def cNext (t : CS) : CS :=
  if t.fin = 0 then
    if t.seen = false then (if st10 (rd t.W (q + 2 * ck K s t.j)) = 0 then cLook K s q t else cNx K (cLook K s q t))
    else (if rd t.W (q + 2 * ck K s t.j) = t.saw then { cTake K s q t with fin := 1, n := ck K s t.j, set := pNext6 t.saw 1 } else cNx K (cTake K s q t))
  else t
def cStp (t : CS) : CS × Bool := (cNext K s q t, decide ((cNext K s q t).fin ≠ 0))
def cPk (t : CS) (i : Nat) (x : Int) : CS := { t with W := t.W.set i x }
/-- what holds of a machine, and of its words -/
structure CInv (t : CS) : Prop where
  ln : q + 2 * K ≤ t.W.length
  wl : t.W.length ≤ 10000
  kb : 1 ≤ K ∧ K ≤ 16
  fb : t.fin ≤ 2
  jb : t.fin ≠ 2 → t.j < K
  z : t.fin = 0 → t.set = 0 ∧ t.n = 0
  z2 : t.fin = 2 → t.set = 0 ∧ t.n = 0
variable {K s q}
theorem ck_lt {j : Nat} (h : 1 ≤ K) : ck K s j < K := Nat.mod_lt _ h
theorem cNext_over {t : CS} (h : t.fin ≠ 0) : cNext K s q t = t := by unfold cNext; rw [if_neg h]
theorem CInv.poke {t : CS} (h : CInv K q t) (i : Nat) (x : Int) : CInv K q (cPk t i x) :=
  ⟨by simpa [cPk] using h.ln, by simpa [cPk] using h.wl, h.kb, h.fb, h.jb, h.z, h.z2⟩
theorem CInv.nx {t : CS} (ln : q + 2 * K ≤ t.W.length) (wl : t.W.length ≤ 10000) (kb : 1 ≤ K ∧ K ≤ 16) (jb : t.j < K) (z : t.set = 0 ∧ t.n = 0) : CInv K q (cNx K t) := by
  refine ⟨ln, wl, kb, ?_, ?_, fun _ => z, fun _ => z⟩
  · show (if t.j + 1 = K then 2 else 0) ≤ 2
    split <;> omega
  · intro h
    have h' : (if t.j + 1 = K then 2 else 0) ≠ 2 := h
    show t.j + 1 < K
    split at h' <;> omega
theorem CInv.step {t : CS} (h : CInv K q t) : CInv K q (cNext K s q t) := by
  unfold cNext
  split
  · rename_i h0
    have hj := h.jb (by omega)
    split
    · split
      · exact ⟨h.ln, h.wl, h.kb, h.fb, h.jb, h.z, h.z2⟩
      · exact CInv.nx h.ln h.wl h.kb hj (h.z h0)
    · split
      · exact ⟨by simpa [cTake, casW_length] using h.ln, by simpa [cTake, casW_length] using h.wl, h.kb, by show (1 : Nat) ≤ 2; omega, fun _ => hj, fun h => by simp at h, fun h => by simp at h⟩
      · exact CInv.nx (by simpa [cTake, casW_length] using h.ln) (by simpa [cTake, casW_length] using h.wl) h.kb hj (h.z h0)
  · exact h
theorem cNext_len (t : CS) : (cNext K s q t).W.length = t.W.length := by
  unfold cNext
  split
  · split
    · split <;> rfl
    · split <;> simp [cTake, cNx, casW_length]
  · rfl
theorem cNext_log (t : CS) (h : t.fin = 0) : (cNext K s q t).L.length = t.L.length + 1 := by
  unfold cNext
  rw [if_pos h]
  split
  · split <;> simp [cLook, cNx]
  · split <;> simp [cTake, cNx]
end
end Go.Proofs.Ytjloccnbcgkmgaa
