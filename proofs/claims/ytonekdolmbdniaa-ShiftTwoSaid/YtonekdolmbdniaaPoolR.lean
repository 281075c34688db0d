/- A pool's machine: more laws of what is played; Step at its end. -/
import Derived.Test.YtonekdolmbdniaaPoolW
namespace Go.Proofs.Ytonekdolmbdniaa
open Go.RowKit
set_option linter.unusedVariables false
set_option linter.unusedSimpArgs false

section
variable {av le : Nat} {n lim : Int}
theorem pPlay_log (len : Nat) (l : List Pk) : ∀ (k m : Nat) (t : PS), t.next < 7 → t.L.length = m → (playF (pStp av le n lim) pPk len l k m t).1.L.length = (playF (pStp av le n lim) pPk len l k m t).2.1 := by
  intro k
  induction k with
  | zero => intro m t h hm; exact hm
  | succ k ih =>
    intro m t h hm
    obtain ⟨W', e, _⟩ := pokeAll_any len m l t
    have h7' : (pokeAll pPk len m l t).next < 7 := by rw [e]; exact h
    have hl : (pokeAll pPk len m l t).L.length = m := by rw [e]; exact hm
    have hl2 := pNext_log (av := av) (le := le) (n := n) (lim := lim) _ h7'
    rw [hl] at hl2
    rw [playF_succ]
    cases hb : (pStp av le n lim (pokeAll pPk len m l t)).2
    · rw [if_neg (by simp)]
      have h4 := pStp_false hb
      have h5 : (pNext av le n lim (pokeAll pPk len m l t)).next ≤ 7 := pNext_le (by omega)
      exact ih (m + 1) _ (show (pNext av le n lim (pokeAll pPk len m l t)).next < 7 by omega) hl2
    · rw [if_pos rfl]
      exact hl2

variable {B : Nat} {w : World} {m a x : Nat} {lv : Value} {nd X : Int}
theorem play_far {B : Nat} {w w' : World} {m a x : Nat} {lv : Value} {W : List Int} {L : List Acc} (hm : MemAt B w m a lv W L) (h1 : B ≤ x) (hk : Keep (fun k => (k = m ∨ k = a ∨ k = x ∨ lv.ownBlock = some k) ∨ w.heap.size ≤ k) w w') (w0 : World) (h0 : Keep0 w0 w) (hB : w0.heap.size ≤ B) : Keep0 w0 w' := keep_far h0 hk (by
  rintro k ((rfl | rfl | rfl | h) | h)
  · exact Nat.le_trans hB hm.bm
  · exact Nat.le_trans hB hm.ba
  · exact Nat.le_trans hB h1
  · exact Nat.le_trans hB (hm.log.lt k h).1
  · exact Nat.le_trans h0.size h)
end
end Go.Proofs.Ytonekdolmbdniaa
