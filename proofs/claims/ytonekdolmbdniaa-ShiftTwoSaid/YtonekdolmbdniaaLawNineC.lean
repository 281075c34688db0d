/- what the laws of layer 9 share: a machine at its beginning. -/
import Derived.Test.YtonekdolmbdniaaLawNineB
import Derived.Test.YtonekdolmbdniaaHeadNine
import Derived.Test.YtonekdolmbdniaaPoolT
namespace Go.Proofs.Ytonekdolmbdniaa
open Go.RowKit
set_option linter.unusedVariables false
set_option linter.unusedSimpArgs false
set_option maxRecDepth 100000

theorem scs_start (kd li av : Nat) (nd n : Int) (sb : Nat) (W : List Int) : scs kd li av nd n sb (sStart kd W) = [i64 li, i64 av, i64 nd, i64 n, i64 0, .slice (some ⟨sb, 0, none⟩) (if kd = 0 then 1 else 3) (if kd = 0 then 1 else 3), i64 0, i64 0, i64 0, .bool false, i64 0] := by
  by_cases e : kd = 0 <;> simp [scs, shc, sStart, atN, aeN, anN, e]
theorem sinv9 {W : List Int} {kd li av : Nat} {n : Int} (hk : kd ≤ 2) (hli : li + 1 = av) (hav : av < W.length) (hn : 1 ≤ n ∧ n ≤ 1048576) (h1 : 0 ≤ rd W li ∧ rd W li ≤ 1099511627776) (h2 : 0 ≤ rd W av ∧ rd W av ≤ 1099511627776) : SInv kd (sF kd li av) (sG kd li av) n 1099511627776 (sStart kd W) := by
  refine SInv.start9 (by unfold sF; split <;> omega) (by unfold sG; split <;> omega) (by unfold sF sG; split <;> omega) hk hn ?_ ?_ (by omega) rfl
  · unfold sF; split <;> omega
  · unfold sG; split <;> omega
theorem okPokes9 {kd li av : Nat} (K : List Pk) : okPokesS (sF kd li av) (sG kd li av) 1099511627776 (K.map (poke9 (av : Int) (li : Int))) := by
  intro p hp _
  rw [List.mem_map] at hp
  obtain ⟨q, _, rfl⟩ := hp
  unfold poke9
  have h1 := Int.emod_nonneg (if q.x < 0 then 0 else q.x) (show (4294967296 : Int) ≠ 0 by omega)
  have h2 := Int.emod_lt_of_pos (if q.x < 0 then 0 else q.x) (show (0 : Int) < 4294967296 by omega)
  split <;> simp only <;> omega
theorem pksAt.at9 {w : World} {A : Option Addr} {l : List Pk} (h : pksAt w A l) : ∃ b o, (0 < l.length → A = some ⟨b, o, none⟩ ∧ b < w.heap.size) ∧ ∀ i (hi : i < l.length), w.cell? ⟨b, o + i * 3, none⟩ = some (i64 l[i].at_) ∧ w.cell? ⟨b, o + i * 3 + 1, none⟩ = some (i64 l[i].w) ∧ w.cell? ⟨b, o + i * 3 + 2, none⟩ = some (i64 l[i].x) := by
  rcases h with rfl | ⟨b, o, e1, h⟩
  · exact ⟨0, 0, fun h => by simp at h, fun i hi => by simp at hi⟩
  · exact ⟨b, o, fun h0 => ⟨e1, World.block_lt_of_cell? _ _ (h 0 h0).1⟩, h⟩
def lgD (LL : List Acc) (j : Nat) : Nat → Value → World → Prop := fun i u w => i = j → ∃ A c, u = .slice A LL.length c ∧ AccsAt w A LL
theorem lgD_stable {LL : List Acc} {j : Nat} : Stable (lgD LL j) := by
  intro i u w w' h hk e
  obtain ⟨A, c, e1, h1⟩ := h e
  exact ⟨A, c, e1, h1.keep hk⟩
theorem lgD_no {LL : List Acc} {j i : Nat} {u : Value} {w : World} (h : i ≠ j) : lgD LL j i u w := fun e => absurd e h
/-- at its end: what was added to the limit, and to what is available -/
theorem ended9 {kd li av : Nat} {n X : Int} {k : Nat} {t : SS} (hk : kd ≤ 2) (h : SExact kd (sF kd li av) (sG kd li av) n X k t) (h3 : t.st = 3) :
    (kd = 0 ∧ t.bad = false ∧ addS li t.L = 0 ∧ addS av t.L = n) ∨ (kd = 1 ∧ t.bad = false ∧ addS li t.L = n ∧ addS av t.L = n) ∨ (kd = 2 ∧ t.bad = false ∧ addS li t.L = -n ∧ addS av t.L = -n) ∨ (kd ≠ 0 ∧ t.bad = true ∧ addS li t.L = 0 ∧ addS av t.L = 0) := by
  have h1 := h.of
  have h2 := h.og
  have h0 := h.inv.k0
  have hx : kd = 0 ∨ kd = 1 ∨ kd = 2 := by omega
  rcases hx with rfl | rfl | rfl
  · have hb := (h0 rfl).2
    simp [sF, sG, ownF, ownG, sBy, h3, hb] at h1 h2 ⊢
    exact ⟨h1, h2⟩
  · cases hb : t.bad <;> simp [sF, sG, ownF, ownG, sBy, h3, hb] at h1 h2 ⊢ <;> exact ⟨h1, h2⟩
  · cases hb : t.bad <;> simp [sF, sG, ownF, ownG, sBy, h3, hb] at h1 h2 ⊢ <;> exact ⟨h2, h1⟩
end Go.Proofs.Ytonekdolmbdniaa
