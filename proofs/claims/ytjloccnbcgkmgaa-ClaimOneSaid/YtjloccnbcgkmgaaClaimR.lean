/- Claims one behind the other, in plain Lean. -/
import Derived.Test.YtjloccnbcgkmgaaClaimA
namespace Go.Proofs.Ytjloccnbcgkmgaa
open Go.RowKit
set_option linter.unusedVariables false
set_option linter.unusedSimpArgs false
/-- how many tickets of the first k are free -/
def fC (q : Nat) (W : List Int) : Nat → Nat
  | 0 => 0
  | k + 1 => fC q W k + (if st10 (rd W (q + 2 * k)) = 0 then 1 else 0)
theorem fC_le (q : Nat) (W : List Int) : ∀ k, fC q W k ≤ k := by
  intro k
  induction k with
  | zero => exact Nat.le_refl _
  | succ k ih => simp only [fC]; split <;> omega
theorem fC_none (q : Nat) (W : List Int) : ∀ k, (∀ f, f < k → st10 (rd W (q + 2 * f)) ≠ 0) → fC q W k = 0 := by
  intro k
  induction k with
  | zero => intro _; rfl
  | succ k ih => intro h; simp only [fC]; rw [ih (fun f hf => h f (by omega)), if_neg (h k (by omega))]
theorem fC_same (q : Nat) (W : List Int) (p : Nat) (x : Int) : ∀ k, q + 2 * k ≤ p → fC q (W.set p x) k = fC q W k := by
  intro k
  induction k with
  | zero => intro _; rfl
  | succ k ih =>
    intro h
    have e1 : rd (W.set p x) (q + 2 * k) = rd W (q + 2 * k) := by rw [rd_set, if_neg (by omega)]
    simp only [fC]
    rw [ih (by omega), e1]
theorem fC_set (q : Nat) (W : List Int) (f : Nat) (x : Int) (h0 : st10 (rd W (q + 2 * f)) = 0) (hx : st10 x ≠ 0) (hl : q + 2 * f < W.length) : ∀ k, f < k → fC q (W.set (q + 2 * f) x) k + 1 = fC q W k := by
  intro k
  induction k with
  | zero => intro h; omega
  | succ k ih =>
    intro h
    simp only [fC]
    by_cases e : f = k
    · subst e
      have e1 : rd (W.set (q + 2 * f) x) (q + 2 * f) = x := by rw [rd_set, if_pos ⟨rfl, hl⟩]
      rw [fC_same q W _ x f (Nat.le_refl _), e1, if_neg hx, if_pos h0]
    · have := ih (by omega)
      have e1 : rd (W.set (q + 2 * f) x) (q + 2 * k) = rd W (q + 2 * k) := by rw [rd_set, if_neg (by omega)]
      rw [e1]
      omega
theorem ck_onto {K s f : Nat} (hf : f < K) : ∃ j, j < K ∧ ck K s j = f := by
  have hK : 0 < K := by omega
  have hs := Nat.mod_lt s hK
  refine ⟨(f + K - s % K) % K, Nat.mod_lt _ hK, ?_⟩
  unfold ck
  rw [Nat.add_mod, Nat.mod_mod, ← Nat.add_mod, Nat.add_mod, Nat.add_mod_mod, show s % K + (f + K - s % K) = f + K by omega, Nat.add_mod_right, Nat.mod_eq_of_lt hf]
theorem CAlone.row {K s q : Nat} {W : List Int} {r : CS × Nat × Bool} (h : CAlone K s q W 0 r) (h1 : 1 ≤ K) :
    (fC q W K = 0 ∧ r.1.fin = 2 ∧ r.1.W = W ∧ r.1.n = 0) ∨
    (∃ f : Nat, f < K ∧ st10 (rd W (q + 2 * f)) = 0 ∧ r.1.fin = 1 ∧ r.1.W = W.set (q + 2 * f) (pNext6 (rd W (q + 2 * f)) 1) ∧ r.1.n = f) := by
  rcases fF_cases K s q W K 0 with ⟨h2, h3⟩ | ⟨f, h2, h3, h4, h5, h6⟩
  · have := h.no (fun i hi hk => h3 i hi (by omega))
    refine Or.inl ⟨fC_none q W K (fun f hf => ?_), this.1, this.2.1, this.2.2.2⟩
    obtain ⟨j, hj, rfl⟩ := ck_onto (s := s) hf
    exact h3 j (Nat.zero_le _) (by omega)
  · have := h.yes f h2 (by omega) h4 h5
    exact Or.inr ⟨ck K s f, ck_lt h1, h4, this.1, this.2.1, this.2.2.2⟩
theorem cNext_logle {K s q : Nat} (t : CS) : (cNext K s q t).L.length ≤ t.L.length + 1 := by
  by_cases h : t.fin = 0
  · rw [cNext_log t h]; exact Nat.le_refl _
  · rw [cNext_over h]; omega
theorem cLogLe {K s q : Nat} (len : Nat) (l : List Pk) : ∀ (k m : Nat) (t : CS), (playF (cStp K s q) cPk len l k m t).1.L.length ≤ t.L.length + k := by
  intro k
  induction k with
  | zero => intro m t; exact Nat.le_refl _
  | succ k ih =>
    intro m t
    obtain ⟨W', e, _⟩ := cPoke_any len m l t
    rw [playF_one, e]
    have h := cNext_logle (K := K) (s := s) (q := q) { t with W := W' }
    have h' : (cStp K s q { t with W := W' }).1.L.length ≤ t.L.length + 1 := h
    split
    · show (cStp K s q { t with W := W' }).1.L.length ≤ _
      omega
    · have := ih (m + 1) (cStp K s q { t with W := W' }).1
      omega
def bls (H : List Bool) : List Value := H.map Value.bool
theorem bls_get {H : List Bool} {k : Nat} (h : k < H.length) : (bls H)[k]? = some (.bool (H[k])) := by simp [bls, h]
theorem bls_set (H : List Bool) (k : Nat) (b : Bool) : (bls H).set k (.bool b) = bls (H.set k b) := by simp [bls, List.map_set]
theorem bls_rep (n : Nat) : bls (List.replicate n false) = List.replicate n (.bool false) := by simp [bls]
/-- between two claims: i were made; F tickets were free -/
structure RI (K q N F i : Nat) (W : List Int) (H : List Bool) : Prop where
  len : W.length = N
  hl : H.length = 16
  cnt : fC q W K + i = F ∨ i = F + 1
  had : ∀ k, k < K → (h : k < H.length) → H[k] = true → st10 (rd W (q + 2 * k)) ≠ 0
theorem RI.no {K q N F i : Nat} {W : List Int} {H : List Bool} (h : RI K q N F i W H) (hi : i ≤ F) (h0 : fC q W K = 0) : i = F ∧ RI K q N F (i + 1) W H := by
  have := h.cnt
  exact ⟨by omega, h.len, h.hl, by omega, h.had⟩
theorem RI.yes {K q N F i f : Nat} {W : List Int} {H : List Bool} (h : RI K q N F i W H) (hi : i ≤ F) (hN : q + 2 * K ≤ N) (hK : K ≤ 16) (hf : f < K) (h0 : st10 (rd W (q + 2 * f)) = 0) :
    i < F ∧ (∃ h : f < H.length, H[f] = false) ∧ RI K q N F (i + 1) (W.set (q + 2 * f) (pNext6 (rd W (q + 2 * f)) 1)) (H.set f true) := by
  have hx : st10 (pNext6 (rd W (q + 2 * f)) 1) ≠ 0 := by rw [st10_next]; decide
  have hlt : q + 2 * f < W.length := by rw [h.len]; omega
  have hc := fC_set q W f _ h0 hx hlt K hf
  have hcn := h.cnt
  have hfl : f < H.length := by rw [h.hl]; omega
  refine ⟨by omega, ⟨hfl, ?_⟩, by simp [h.len], by simp [h.hl], by omega, ?_⟩
  · cases e : H[f] with
    | false => rfl
    | true => exact absurd h0 (h.had f hf hfl e)
  · intro k hk hkl ht
    rw [rd_set]
    by_cases e : k = f
    · subst e
      rw [if_pos ⟨rfl, hlt⟩]
      exact hx
    · rw [if_neg (by omega)]
      refine h.had k hk (by simpa using hkl) ?_
      rw [List.getElem_set_ne (by omega)] at ht
      exact ht
end Go.Proofs.Ytjloccnbcgkmgaa
