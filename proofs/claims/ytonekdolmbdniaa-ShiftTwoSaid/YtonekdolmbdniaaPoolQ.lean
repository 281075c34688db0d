/- A pool's machine that is played, in plain Lean. -/
import Derived.Test.YtonekdolmbdniaaPoolP
import Derived.Test.YtonekdolmbdniaaPlay
namespace Go.Proofs.Ytonekdolmbdniaa
open Go.RowKit
set_option linter.unusedVariables false
set_option linter.unusedSimpArgs false

section
variable {τ : Type}
theorem playF_succ (stp : τ → τ × Bool) (pk : τ → Nat → Int → τ) (len : Nat) (l : List Pk) (k n : Nat) (t : τ) : playF stp pk len l (k + 1) n t = if (stp (pokeAll pk len n l t)).2 then ((stp (pokeAll pk len n l t)).1, n + 1, true) else playF stp pk len l k (n + 1) (stp (pokeAll pk len n l t)).1 := rfl
theorem playF_inv (I : Nat → τ → Prop) {stp : τ → τ × Bool} {pk : τ → Nat → Int → τ} {len : Nat} {l : List Pk} (hp : ∀ n t, I n t → I n (pokeAll pk len n l t)) (hs : ∀ n t, I n t → I (n + 1) (stp t).1) :
    ∀ k n t, I n t → I (playF stp pk len l k n t).2.1 (playF stp pk len l k n t).1 := by
  intro k
  induction k with
  | zero => intro n t h; exact h
  | succ k ih =>
    intro n t h
    rw [playF_succ]
    have h2 := hs n _ (hp n t h)
    split
    · exact h2
    · exact ih _ _ h2
theorem pokeAll_nil (pk : τ → Nat → Int → τ) (len : Nat) (n : Int) (t : τ) : pokeAll pk len n [] t = t := rfl
end

section
variable (av le : Nat) (n lim : Int)
theorem pokeAll_any (len : Nat) (i : Int) (l : List Pk) (t : PS) : ∃ W', pokeAll pPk len i l t = { t with W := W' } ∧ W'.length = t.W.length := by
  unfold pokeAll
  induction l generalizing t with
  | nil => exact ⟨t.W, rfl, rfl⟩
  | cons p l ih =>
    rw [List.foldl_cons]
    split
    · obtain ⟨W', h1, h2⟩ := ih (pPk t p.w.toNat p.x)
      exact ⟨W', h1, by rw [h2]; simp [pPk]⟩
    · exact ih t
/-- pokes that leave a pool as it may be -/
def okPokes (X : Int) (l : List Pk) : Prop := ∀ p ∈ l, (p.w = av → 0 ≤ p.x ∧ p.x ≤ X) ∧ (p.w = le → 0 ≤ p.x ∧ p.x ≤ lim)
def remAt (i : Int) (l : List Pk) : Nat := (l.filter (fun p => decide (i ≤ p.at_))).length
def thisAt (i : Int) (l : List Pk) : Nat := (l.filter (fun p => decide (p.at_ = i))).length
theorem remAt_le (i : Int) (l : List Pk) : remAt i l ≤ l.length := List.length_filter_le _ _
theorem remAt_succ (i : Int) (l : List Pk) : remAt i l = thisAt i l + remAt (i + 1) l := by
  unfold remAt thisAt
  induction l with
  | nil => rfl
  | cons p l ih =>
    simp only [List.filter_cons]
    by_cases h1 : p.at_ = i
    · have a1 : decide (i ≤ p.at_) = true := by simp; omega
      have a2 : decide (i + 1 ≤ p.at_) = false := by simp; omega
      have a3 : decide (p.at_ = i) = true := by simpa using h1
      rw [a1, a2, a3]
      simp [ih]; omega
    · by_cases h2 : i ≤ p.at_
      · have a1 : decide (i ≤ p.at_) = true := by simpa using h2
        have a2 : decide (i + 1 ≤ p.at_) = true := by simp; omega
        have a3 : decide (p.at_ = i) = false := by simpa using h1
        rw [a1, a2, a3]
        simp [ih]; omega
      · have a1 : decide (i ≤ p.at_) = false := by simp; omega
        have a2 : decide (i + 1 ≤ p.at_) = false := by simp; omega
        have a3 : decide (p.at_ = i) = false := by simpa using h1
        rw [a1, a2, a3]
        simp [ih]
variable {av le n lim}
theorem PInv.pokes {X : Int} {t : PS} (h : PInv av le n lim X t) (len : Nat) (i : Int) (l : List Pk) (hl : okPokes av le lim X l) : PInv av le n lim X (pokeAll pPk len i l t) := by
  unfold pokeAll
  induction l generalizing t with
  | nil => exact h
  | cons p l ih =>
    rw [List.foldl_cons]
    have hl2 : okPokes av le lim X l := fun q hq => hl q (List.mem_cons_of_mem _ hq)
    split
    · rename_i c
      refine ih (h.poke _ _ ?_) hl2
      have hp := hl p (by simp)
      exact ⟨fun e => hp.1 (by omega), fun e => hp.2 (by omega)⟩
    · exact ih h hl2
theorem pNeed_pokes (len : Nat) (i : Int) (l : List Pk) (t : PS) : pNeed av le (pokeAll pPk len i l t) ≤ pNeed av le t + 5 * thisAt i l := by
  by_cases h : thisAt i l = 0
  · have e : pokeAll pPk len i l t = t := by
      unfold pokeAll
      unfold thisAt at h
      have h' := List.eq_nil_of_length_eq_zero h
      rw [List.filter_eq_nil_iff] at h'
      clear h
      induction l generalizing t with
      | nil => rfl
      | cons p l ih =>
        rw [List.foldl_cons, if_neg (fun c => h' p (by simp) (by simpa using c.1))]
        exact ih t (fun q hq => h' q (List.mem_cons_of_mem _ hq))
    rw [e]; omega
  · obtain ⟨W', e, _⟩ := pokeAll_any len i l t
    rw [e]
    have := pNeed_any (av := av) (le := le) W' t
    omega
theorem pStp_false {t : PS} (h : (pStp av le n lim t).2 = false) : (pNext av le n lim t).next ≠ 7 := by simpa [pStp] using h
theorem pStp_true {t : PS} (h : (pStp av le n lim t).2 = true) : (pNext av le n lim t).next = 7 := by simpa [pStp] using h
theorem pNext_le {t : PS} (h : t.next ≤ 7) : (pNext av le n lim t).next ≤ 7 := by
  unfold pNext
  repeat' split
  all_goals first | (simp only; repeat' split) | skip
  all_goals omega
/-- it ends -/
theorem pPlay_ends (len : Nat) (l : List Pk) : ∀ (k m : Nat) (t : PS), t.next < 7 → pNeed av le t + 5 * remAt m l ≤ k → (playF (pStp av le n lim) pPk len l k m t).2.2 = true := by
  intro k
  induction k with
  | zero =>
    intro m t h7 h
    have := pNeed_zero (av := av) (le := le) (t := t) (by omega) (by omega)
    omega
  | succ k ih =>
    intro m t h7 h
    rw [playF_succ]
    cases hb : (pStp av le n lim (pokeAll pPk len m l t)).2
    · rw [if_neg (by simp)]
      obtain ⟨W', e, _⟩ := pokeAll_any len m l t
      have h7' : (pokeAll pPk len m l t).next < 7 := by rw [e]; exact h7
      have h1 := pNeed_pokes (av := av) (le := le) len m l t
      have h2 := pNeed_step (av := av) (le := le) (n := n) (lim := lim) h7'
      have h3 := remAt_succ m l
      have h4 := pStp_false hb
      have h5 : (pNext av le n lim (pokeAll pPk len m l t)).next ≤ 7 := pNext_le (by omega)
      refine ih (m + 1) _ (show (pNext av le n lim (pokeAll pPk len m l t)).next < 7 by omega) ?_
      show pNeed av le (pNext av le n lim (pokeAll pPk len m l t)) + 5 * remAt ((m + 1 : Nat) : Int) l ≤ k
      rw [show ((m + 1 : Nat) : Int) = (m : Int) + 1 from by omega]
      omega
    · rfl
/-- its end, as it is told -/
theorem pPlay_told (len : Nat) (l : List Pk) : ∀ (k m : Nat) (t : PS), t.next < 7 → ((playF (pStp av le n lim) pPk len l k m t).2.2 = true → (playF (pStp av le n lim) pPk len l k m t).1.next = 7) ∧
    ((playF (pStp av le n lim) pPk len l k m t).2.2 = false → (playF (pStp av le n lim) pPk len l k m t).1.next < 7 ∧ (playF (pStp av le n lim) pPk len l k m t).2.1 = m + k) := by
  intro k
  induction k with
  | zero => intro m t h; exact ⟨fun h => (by cases h), fun _ => ⟨h, rfl⟩⟩
  | succ k ih =>
    intro m t h
    obtain ⟨W', e, _⟩ := pokeAll_any len m l t
    have h7' : (pokeAll pPk len m l t).next < 7 := by rw [e]; exact h
    rw [playF_succ]
    cases hb : (pStp av le n lim (pokeAll pPk len m l t)).2
    · rw [if_neg (by simp)]
      have h4 := pStp_false hb
      have h5 : (pNext av le n lim (pokeAll pPk len m l t)).next ≤ 7 := pNext_le (by omega)
      have h6 := ih (m + 1) (pStp av le n lim (pokeAll pPk len m l t)).1 (show (pNext av le n lim (pokeAll pPk len m l t)).next < 7 by omega)
      exact ⟨h6.1, fun e => ⟨(h6.2 e).1, by rw [(h6.2 e).2]; omega⟩⟩
    · rw [if_pos rfl]
      exact ⟨fun _ => pStp_true hb, fun h => (by cases h)⟩
theorem pPlay_le (len : Nat) (l : List Pk) : ∀ (k m : Nat) (t : PS), (playF (pStp av le n lim) pPk len l k m t).2.1 ≤ m + k := by
  intro k
  induction k with
  | zero => intro m t; exact Nat.le_refl _
  | succ k ih =>
    intro m t
    rw [playF_succ]
    split
    · simp only; omega
    · have := ih (m + 1) (pStp av le n lim (pokeAll pPk len m l t)).1
      omega

/-- what one access adds -/
def ownD (a : Acc) : Int := if a.kind = 2 then a.a else if a.kind = 3 ∧ a.ok = true then a.b - a.a else 0
def ownS (L : List Acc) : Int := L.foldl (fun s a => s + ownD a) 0
theorem ownS_snoc (L : List Acc) (a : Acc) : ownS (L ++ [a]) = ownS L + ownD a := by simp [ownS]
/-- what a machine's accesses added up to now -/
def pOwn (n : Int) (t : PS) : Int := if t.next = 7 then (if t.bad = true then 0 else -n) else if 4 ≤ t.next then -(n + t.extra) else 0
theorem pOwn_step {X : Int} {t : PS} (h : PInv av le n lim X t) (h7 : t.next < 7) : ∃ a, (pNext av le n lim t).L = t.L ++ [a] ∧ ownD a = pOwn n (pNext av le n lim t) - pOwn n t ∧ (a.w = av ∨ a.w = le) ∧ (1 ≤ a.kind ∧ a.kind ≤ 3) ∧ -4194304 ≤ ownD a ∧ ownD a ≤ 4194304 := by
  obtain ⟨W, L, next, had, saw, extra, bad⟩ := t
  obtain ⟨la, ll, ne, n1, m1, wl, wa, nx, s1, s3, s4, s5, b⟩ := h
  simp only at *
  obtain rfl : bad = false := by
    cases bad with
    | false => rfl
    | true => have := b rfl; omega
  have hx : next = 0 ∨ next = 1 ∨ next = 2 ∨ next = 3 ∨ next = 4 ∨ next = 5 ∨ next = 6 := by omega
  rcases hx with rfl | rfl | rfl | rfl | rfl | rfl | rfl
  · by_cases c : n ≤ rd W le <;> refine ⟨_, rfl, ?_⟩ <;> simp [pNext, pOwn, ownD, c] <;> omega
  · have := s1 rfl
    by_cases c : rd W le = had <;> refine ⟨_, rfl, ?_⟩ <;> simp [pNext, pOwn, ownD, c] <;> omega
  · by_cases c : rd W av < n
    · refine ⟨⟨1, av, rd W av, 0, false⟩, by simp [pNext, c], ?_⟩
      simp [pNext, pOwn, ownD, c] <;> omega
    · refine ⟨⟨1, av, rd W av, 0, false⟩, by simp [pNext, c], ?_⟩
      simp [pNext, pOwn, ownD, c] <;> omega
  · obtain ⟨q1, q2, q3⟩ := s3 rfl
    by_cases c : rd W av = saw
    · by_cases c2 : extra = 0 <;> refine ⟨_, rfl, ?_⟩ <;> simp [pNext, pOwn, ownD, c, c2] <;> omega
    · refine ⟨_, rfl, ?_⟩
      simp [pNext, pOwn, ownD, c] <;> omega
  · have := s4 (by simp)
    by_cases c : rd W le + extra ≤ lim <;> refine ⟨_, rfl, ?_⟩ <;> simp [pNext, pOwn, ownD, c] <;> omega
  · have := s4 (by simp)
    have := s5 rfl
    by_cases c : rd W le = had <;> refine ⟨_, rfl, ?_⟩ <;> simp [pNext, pOwn, ownD, c] <;> omega
  · have := s4 (by simp)
    refine ⟨_, rfl, ?_⟩
    simp [pNext, pOwn, ownD] <;> omega
end
end Go.Proofs.Ytonekdolmbdniaa
