/- What a pool's machine computes, in plain Lean: stages 0 look, 1 spend, 2 price, 3 buy, 4 room, 5 keep, 6 back, 7 over. -/
import Derived.Test.YtlkniogapdhcpaaMemC
namespace Go.Proofs.Ytlkniogapdhcpaa
open Go.RowKit
set_option linter.unusedVariables false
set_option linter.unusedSimpArgs false

structure PS where
  W : List Int
  L : List Acc
  next : Nat
  had : Int
  saw : Int
  extra : Int
  bad : Bool

theorem rd_set (W : List Int) (i j : Nat) (x : Int) : rd (W.set i x) j = if j = i ∧ i < W.length then x else rd W j := by
  unfold rd
  rw [List.getD_eq_getElem?_getD, List.getD_eq_getElem?_getD, List.getElem?_set]
  by_cases h : i = j
  · subst h
    by_cases h2 : i < W.length
    · simp [h2]
    · simp [h2]
  · simp [h, Ne.symm h]
theorem rd_casW (W : List Int) (i j : Nat) (o x : Int) : rd (casW W i o x) j = if (j = i ∧ i < W.length) ∧ rd W i = o then x else rd W j := by
  unfold casW
  by_cases h : rd W i = o
  · simp [h, rd_set]
  · simp [h]

section
variable (av le : Nat) (n lim : Int)
def pNext (t : PS) : PS :=
  if t.next = 0 then { t with L := t.L ++ [⟨1, le, rd t.W le, 0, false⟩], had := rd t.W le, next := if n ≤ rd t.W le then 1 else 2 }
  else if t.next = 1 then { t with W := casW t.W le t.had (t.had - n), L := t.L ++ [⟨3, le, t.had, t.had - n, rd t.W le == t.had⟩], next := if rd t.W le = t.had then 7 else 0 }
  else if t.next = 2 then
    if rd t.W av < n then { t with L := t.L ++ [⟨1, av, rd t.W av, 0, false⟩], saw := rd t.W av, next := 7, bad := true }
    else { t with L := t.L ++ [⟨1, av, rd t.W av, 0, false⟩], saw := rd t.W av, extra := min (rd t.W av - n) (lim / 2), next := 3 }
  else if t.next = 3 then { t with W := casW t.W av t.saw (t.saw - n - t.extra), L := t.L ++ [⟨3, av, t.saw, t.saw - n - t.extra, rd t.W av == t.saw⟩], next := if rd t.W av = t.saw then (if t.extra = 0 then 7 else 4) else 2 }
  else if t.next = 4 then { t with L := t.L ++ [⟨1, le, rd t.W le, 0, false⟩], had := rd t.W le, next := if rd t.W le + t.extra ≤ lim then 5 else 6 }
  else if t.next = 5 then { t with W := casW t.W le t.had (t.had + t.extra), L := t.L ++ [⟨3, le, t.had, t.had + t.extra, rd t.W le == t.had⟩], next := if rd t.W le = t.had then 7 else 4 }
  else if t.next = 6 then { t with W := t.W.set av (rd t.W av + t.extra), L := t.L ++ [⟨2, av, t.extra, rd t.W av + t.extra, false⟩], next := 7 }
  else t
def pStp (t : PS) : PS × Bool := (pNext av le n lim t, decide ((pNext av le n lim t).next = 7))
def pPk (t : PS) (i : Nat) (x : Int) : PS := { t with W := t.W.set i x }

/-- what holds of a machine, and of its words: X bounds what is available -/
structure PInv (X : Int) (t : PS) : Prop where
  la : av < t.W.length
  ll : le < t.W.length
  ne : av ≠ le
  n1 : 1 ≤ n ∧ n ≤ 1048576
  m1 : 0 ≤ lim ∧ lim ≤ 1048576
  wl : 0 ≤ rd t.W le ∧ rd t.W le ≤ lim
  wa : 0 ≤ rd t.W av ∧ rd t.W av ≤ X
  nx : t.next ≤ 7
  s1 : t.next = 1 → n ≤ t.had ∧ t.had ≤ lim
  s3 : t.next = 3 → n ≤ t.saw ∧ t.saw ≤ X ∧ t.extra = min (t.saw - n) (lim / 2)
  s4 : (t.next = 4 ∨ t.next = 5 ∨ t.next = 6) → 0 < t.extra ∧ t.extra ≤ lim / 2
  s5 : t.next = 5 → 0 ≤ t.had ∧ t.had + t.extra ≤ lim
  b : t.bad = true → t.next = 7
variable {av le n lim}
theorem PInv.more {X Y : Int} {t : PS} (h : PInv av le n lim X t) (hY : X ≤ Y) : PInv av le n lim Y t :=
  ⟨h.la, h.ll, h.ne, h.n1, h.m1, h.wl, ⟨h.wa.1, Int.le_trans h.wa.2 hY⟩, h.nx, h.s1, fun e => ⟨(h.s3 e).1, Int.le_trans (h.s3 e).2.1 hY, (h.s3 e).2.2⟩, h.s4, h.s5, h.b⟩
theorem PInv.poke {X : Int} {t : PS} (h : PInv av le n lim X t) (i : Nat) (x : Int) (hi : (i = av → 0 ≤ x ∧ x ≤ X) ∧ (i = le → 0 ≤ x ∧ x ≤ lim)) : PInv av le n lim X (pPk t i x) := by
  refine ⟨by simpa [pPk] using h.la, by simpa [pPk] using h.ll, h.ne, h.n1, h.m1, ?_, ?_, h.nx, h.s1, h.s3, h.s4, h.s5, h.b⟩
  · show 0 ≤ rd (t.W.set i x) le ∧ rd (t.W.set i x) le ≤ lim
    rw [rd_set]
    split
    · rename_i e; exact hi.2 e.1.symm
    · exact h.wl
  · show 0 ≤ rd (t.W.set i x) av ∧ rd (t.W.set i x) av ≤ X
    rw [rd_set]
    split
    · rename_i e; exact hi.1 e.1.symm
    · exact h.wa
theorem pNext_over {t : PS} (h : t.next = 7) : pNext av le n lim t = t := by simp [pNext, h]
theorem pNext_len (t : PS) : (pNext av le n lim t).W.length = t.W.length := by
  unfold pNext
  repeat (first | (split) | rfl | (simp [casW_length]))
theorem pNext_log (t : PS) (h : t.next < 7) : (pNext av le n lim t).L.length = t.L.length + 1 := by
  unfold pNext
  repeat' split
  all_goals first | omega | (simp; done)
theorem PInv.step {X : Int} {t : PS} (h : PInv av le n lim X t) : PInv av le n lim (X + 1048576) (pNext av le n lim t) := by
  have h' := h.more (Y := X + 1048576) (by omega)
  obtain ⟨W, L, next, had, saw, extra, bad⟩ := t
  obtain ⟨la, ll, ne, n1, m1, wl, wa, nx, s1, s3, s4, s5, b⟩ := h
  simp only at *
  have hx : next = 0 ∨ next = 1 ∨ next = 2 ∨ next = 3 ∨ next = 4 ∨ next = 5 ∨ next = 6 ∨ next = 7 := by omega
  rcases hx with rfl | rfl | rfl | rfl | rfl | rfl | rfl | rfl
  · by_cases c : n ≤ rd W le
    · constructor <;> simp [pNext, c] at b ⊢ <;> first | assumption | omega
    · constructor <;> simp [pNext, c] at b ⊢ <;> first | assumption | omega
  · have := s1 rfl
    by_cases c : rd W le = had
    · constructor <;> simp [pNext, c, casW_length, rd_casW, ne, ll] at b ⊢ <;> first | assumption | omega
    · constructor <;> simp [pNext, c, casW_length, rd_casW] at b ⊢ <;> first | assumption | omega
  · by_cases c : rd W av < n
    · constructor <;> simp [pNext, c] at b ⊢ <;> first | assumption | omega
    · constructor <;> simp [pNext, c] at b ⊢ <;> first | assumption | omega
  · obtain ⟨q1, q2, q3⟩ := s3 rfl
    by_cases c : rd W av = saw
    · by_cases c2 : extra = 0
      · constructor <;> simp [pNext, c, c2, casW_length, rd_casW, ne, Ne.symm ne, la] at b ⊢ <;> first | assumption | omega
      · constructor <;> simp [pNext, c, c2, casW_length, rd_casW, ne, Ne.symm ne, la] at b ⊢ <;> first | assumption | omega
    · constructor <;> simp [pNext, c, casW_length, rd_casW] at b ⊢ <;> first | assumption | omega
  · have := s4 (by simp)
    by_cases c : rd W le + extra ≤ lim
    · constructor <;> simp [pNext, c] at b ⊢ <;> first | assumption | omega
    · constructor <;> simp [pNext, c] at b ⊢ <;> first | assumption | omega
  · have := s4 (by simp)
    have := s5 rfl
    by_cases c : rd W le = had
    · constructor <;> simp [pNext, c, casW_length, rd_casW, ne, ll] at b ⊢ <;> first | assumption | omega
    · constructor <;> simp [pNext, c, casW_length, rd_casW] at b ⊢ <;> first | assumption | omega
  · have := s4 (by simp)
    constructor <;> simp [pNext, rd_set, ne, Ne.symm ne, la] at b ⊢ <;> first | assumption | omega
  · exact h'

/-- how many steps a machine needs yet, if nothing is done meanwhile -/
def pNeed (av le : Nat) (t : PS) : Nat :=
  if t.next = 0 then 5 else if t.next = 1 then (if rd t.W le = t.had then 1 else 6) else if t.next = 2 then 4
  else if t.next = 3 then (if rd t.W av = t.saw then 3 else 5) else if t.next = 4 then 2 else if t.next = 5 then (if rd t.W le = t.had then 1 else 3)
  else if t.next = 6 then 1 else 0
theorem pNeed_step {t : PS} (h : t.next < 7) : pNeed av le (pNext av le n lim t) + 1 ≤ pNeed av le t := by
  obtain ⟨W, L, next, had, saw, extra, bad⟩ := t
  simp only at h
  have hx : next = 0 ∨ next = 1 ∨ next = 2 ∨ next = 3 ∨ next = 4 ∨ next = 5 ∨ next = 6 := by omega
  rcases hx with rfl | rfl | rfl | rfl | rfl | rfl | rfl
  · by_cases c : n ≤ rd W le <;> simp [pNext, pNeed, c]
  · by_cases c : rd W le = had <;> simp [pNext, pNeed, c]
  · by_cases c : rd W av < n <;> simp [pNext, pNeed, c]
  · by_cases c : rd W av = saw <;> by_cases c2 : extra = 0 <;> simp [pNext, pNeed, c, c2]
  · by_cases c : rd W le + extra ≤ lim <;> simp [pNext, pNeed, c]
  · by_cases c : rd W le = had <;> simp [pNext, pNeed, c]
  · simp [pNext, pNeed]
theorem pNeed_any (W' : List Int) (t : PS) : pNeed av le { t with W := W' } ≤ pNeed av le t + 5 := by
  unfold pNeed
  simp only
  repeat' split
  all_goals omega
theorem pNeed_zero {t : PS} (h : t.next ≤ 7) (h0 : pNeed av le t = 0) : t.next = 7 := by
  unfold pNeed at h0
  repeat' split at h0
  all_goals omega
end
end Go.Proofs.Ytlkniogapdhcpaa
