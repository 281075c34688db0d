/- What a claim's play does, in plain Lean. -/
import Derived.Test.YtjloccnbcgkmgaaClaimP
namespace Go.Proofs.Ytjloccnbcgkmgaa
open Go.RowKit
set_option linter.unusedVariables false
set_option linter.unusedSimpArgs false
theorem cPoke_any (len : Nat) (n : Int) : ∀ (l : List Pk) (t : CS), ∃ W', pokeAll cPk len n l t = { t with W := W' } ∧ W'.length = t.W.length := by
  intro l
  induction l with
  | nil => intro t; exact ⟨t.W, rfl, rfl⟩
  | cons p l ih =>
    intro t
    by_cases h : p.at_ = n ∧ 0 ≤ p.w ∧ p.w < (len : Int)
    · obtain ⟨W', e, hl⟩ := ih (cPk t p.w.toNat p.x)
      refine ⟨W', ?_, by rw [hl]; simp [cPk]⟩
      show pokeAll cPk len n l (if p.at_ = n ∧ 0 ≤ p.w ∧ p.w < (len : Int) then cPk t p.w.toNat p.x else t) = _
      rw [if_pos h, e]
      rfl
    · obtain ⟨W', e, hl⟩ := ih t
      refine ⟨W', ?_, hl⟩
      show pokeAll cPk len n l (if p.at_ = n ∧ 0 ≤ p.w ∧ p.w < (len : Int) then cPk t p.w.toNat p.x else t) = _
      rw [if_neg h, e]
theorem CInv.words {K q : Nat} {t : CS} (h : CInv K q t) (W' : List Int) (hl : W'.length = t.W.length) : CInv K q { t with W := W' } :=
  ⟨by show q + 2 * K ≤ W'.length; rw [hl]; exact h.ln, by show W'.length ≤ 10000; rw [hl]; exact h.wl, h.kb, h.fb, h.jb, h.z, h.z2⟩
theorem playF_one {τ : Type} (stp : τ → τ × Bool) (pk : τ → Nat → Int → τ) (len : Nat) (l : List Pk) (k n : Nat) (t : τ) :
    playF stp pk len l (k + 1) n t = if (stp (pokeAll pk len n l t)).2 then ((stp (pokeAll pk len n l t)).1, n + 1, true) else playF stp pk len l k (n + 1) (stp (pokeAll pk len n l t)).1 := rfl
section
variable {K s q : Nat}
/-- the steps that it needs at most -/
def cNeed (K : Nat) (t : CS) : Nat := if t.fin = 0 then 2 * (K - t.j) - (if t.seen = true then 1 else 0) else 0
theorem cNeed_step {t : CS} (h : CInv K q t) (h0 : t.fin = 0) : cNeed K (cNext K s q t) + 1 ≤ cNeed K t := by
  have hj := h.jb (by omega)
  have nx : ∀ u : CS, u.j = t.j → cNeed K (cNx K u) ≤ 2 * (K - t.j) - 2 := by
    intro u hu
    unfold cNeed
    by_cases hl : u.j + 1 = K
    · have e : (cNx K u).fin = 2 := by simp [cNx, hl]
      rw [if_neg (by rw [e]; decide)]
      omega
    · have e : (cNx K u).fin = 0 := by simp [cNx, hl]
      have e2 : (cNx K u).seen = false := rfl
      have e3 : (cNx K u).j = u.j + 1 := rfl
      rw [if_pos e, e2, e3]
      simp
      omega
  have e0 : cNeed K t = 2 * (K - t.j) - (if t.seen = true then 1 else 0) := by unfold cNeed; rw [if_pos h0]
  unfold cNext
  rw [if_pos h0, e0]
  by_cases hs : t.seen = false
  · rw [if_pos hs, hs]
    split
    · have e : cNeed K (cLook K s q t) = 2 * (K - t.j) - 1 := by unfold cNeed; rw [if_pos (show (cLook K s q t).fin = 0 from h0)]; rfl
      rw [e]; simp; omega
    · have := nx (cLook K s q t) rfl
      simp; omega
  · have hs' : t.seen = true := by simpa using hs
    rw [if_neg hs, hs']
    split
    · have e : ∀ u : CS, u.fin = 1 → cNeed K u = 0 := by intro u hu; unfold cNeed; rw [if_neg (by omega)]
      rw [e _ rfl]; simp; omega
    · have := nx (cTake K s q t) rfl
      simp; omega
/-- what a play does -/
structure CPlay (K q m k : Nat) (t : CS) (r : CS × Nat × Bool) : Prop where
  inv : CInv K q r.1
  log : r.1.L.length = r.2.1
  len : r.1.W.length = t.W.length
  told : r.2.2 = true → r.1.fin ≠ 0
  not : r.2.2 = false → r.1.fin = 0 ∧ r.2.1 = m + k
  le : r.2.1 ≤ m + k
  ge : k ≠ 0 → m + 1 ≤ r.2.1
  need : r.2.1 + cNeed K r.1 ≤ m + cNeed K t
theorem cPlay (len : Nat) (l : List Pk) : ∀ (k m : Nat) (t : CS), t.fin = 0 → t.L.length = m → CInv K q t → CPlay K q m k t (playF (cStp K s q) cPk len l k m t) := by
  intro k
  induction k with
  | zero => intro m t h hm hi; exact ⟨hi, hm, rfl, fun h => by simp [playF] at h, fun _ => ⟨h, rfl⟩, Nat.le_refl _, fun h => absurd rfl h, Nat.le_refl _⟩
  | succ k ih =>
    intro m t h hm hi
    obtain ⟨W', e, hl⟩ := cPoke_any len m l t
    rw [playF_one, e]
    have hi2 := hi.words W' hl
    have hlg := cNext_log (K := K) (s := s) (q := q) { t with W := W' } h
    have hln := cNext_len (K := K) (s := s) (q := q) { t with W := W' }
    have hnd := cNeed_step (s := s) hi2 h
    have hnd' : cNeed K { t with W := W' } = cNeed K t := rfl
    have hst := hi2.step (s := s)
    have e1 : (cStp K s q { t with W := W' }).1 = cNext K s q { t with W := W' } := rfl
    have e2 : (cStp K s q { t with W := W' }).2 = decide ((cNext K s q { t with W := W' }).fin ≠ 0) := rfl
    rw [e1, e2]
    generalize cNext K s q { t with W := W' } = u at *
    have hlg' : u.L.length = m + 1 := by rw [hlg]; show t.L.length + 1 = m + 1; rw [hm]
    have hln' : u.W.length = t.W.length := hln.trans hl
    by_cases hf : u.fin = 0
    · rw [if_neg (by simp [hf])]
      have h2 := ih (m + 1) u hf hlg' hst
      refine ⟨h2.inv, h2.log, h2.len.trans hln', h2.told, fun hb => ⟨(h2.not hb).1, by have := (h2.not hb).2; omega⟩, by have := h2.le; omega, fun _ => ?_, by have := h2.need; omega⟩
      have h3 := h2.ge
      by_cases hk : k = 0
      · have h4 := h2.log
        subst hk
        have h5 : (playF (cStp K s q) cPk len l 0 (m + 1) u).2.1 = m + 1 := rfl
        omega
      · have := h3 hk; omega
    · rw [if_pos (by simp [hf])]
      exact ⟨hst, hlg', hln', fun _ => hf, fun hb => by simp at hb, by show m + 1 ≤ m + (k + 1); omega, fun _ => Nat.le_refl _, by show m + 1 + cNeed K u ≤ m + cNeed K t; omega⟩
end
end Go.Proofs.Ytjloccnbcgkmgaa
