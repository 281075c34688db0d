/- The words of a pool, as the laws of layer 8 lay them, in plain Lean. -/
import Derived.Test.YtonekdolmbdniaaLawEightC
import Derived.Test.YtonekdolmbdniaaHeadEight
namespace Go.Proofs.Ytonekdolmbdniaa
open Go.RowKit
set_option linter.unusedVariables false
set_option linter.unusedSimpArgs false

theorem leaseW_rd (l : Int) (b : Nat) (Q : List Int) (i : Nat) (W : List Int) (j : Nat) : rd (leaseW l b Q i W) j = if b ≤ j ∧ j < b + i ∧ j < W.length then rd Q (j - b) % (l + 1) else rd W j := by
  induction i with
  | zero => rw [if_neg (by omega)]; rfl
  | succ i ih =>
    rw [leaseW, rd_set, leaseW_length, ih]
    by_cases h : j = b + i
    · subst h
      by_cases h2 : b + i < W.length
      · rw [if_pos ⟨rfl, h2⟩, if_pos (by omega), Nat.add_sub_cancel_left]
      · rw [if_neg (by omega), if_neg (by omega), if_neg (by omega)]
    · rw [if_neg (by omega)]
      by_cases h3 : b ≤ j ∧ j < b + i ∧ j < W.length
      · rw [if_pos h3, if_pos (by omega)]
      · rw [if_neg h3, if_neg (by omega)]
theorem rd_layW (s v x : Int) (W : List Int) (p : Nat) : rd (layW s v x W) p = rd W p ∨ rd (layW s v x W) p = x ∨ rd (layW s v x W) p = 1 := by
  unfold layW
  rw [rd_set, rd_set, rd_set]
  split
  · right; right; rfl
  · split
    · right; left; rfl
    · split
      · right; left; rfl
      · left; rfl
theorem freshW_bound {L : List Int} (hL : ∀ i, i < L.length → 0 ≤ rd L i ∧ rd L i ≤ 1099511627776) (s : Int) (n : Nat) (hn : n ≤ L.length) (N p : Nat) : 0 ≤ rd (layN s L n (List.replicate N 0)) p ∧ rd (layN s L n (List.replicate N 0)) p ≤ 1099511627776 := by
  induction n with
  | zero =>
    have e : rd (List.replicate N (0 : Int)) p = 0 := by
      unfold rd
      rw [List.getD_eq_getElem?_getD, List.getElem?_replicate]
      split <;> rfl
    rw [layN, e]; omega
  | succ n ih =>
    have h1 := ih (by omega)
    have h2 := hL n (by omega)
    rw [layN]
    rcases rd_layW s n (rd L n) (layN s L n (List.replicate N 0)) p with h | h | h
    · rw [h]; exact h1
    · rw [h]; exact h2
    · rw [h]; omega
theorem freshW_lease (s : Int) (hs : 1 ≤ s) (L : List Int) (n N p : Nat) (v u : Int) (hv : 0 ≤ v) (hu : 0 ≤ u ∧ u < s) (hp : (p : Int) = v * (6 + 2 * s) + 2 + u) : rd (layN s L n (List.replicate N 0)) p = 0 := by
  induction n with
  | zero =>
    unfold rd
    rw [layN, List.getD_eq_getElem?_getD, List.getElem?_replicate]
    split <;> rfl
  | succ n ih =>
    rw [layN, layW, rd_set, rd_set, rd_set]
    have hE : 0 ≤ 6 + 2 * s := by omega
    have h0 : 0 ≤ (n : Int) * (6 + 2 * s) := Int.mul_nonneg (by omega) hE
    have key : ∀ c : Int, 0 ≤ c → c < 6 + 2 * s → c ≠ 2 + u → (n : Int) * (6 + 2 * s) + c ≠ p := by
      intro c hc0 hc1 hc2 e
      rw [hp] at e
      rcases Int.lt_trichotomy n v with h | h | h
      · have h1 : ((n : Int) + 1) * (6 + 2 * s) ≤ v * (6 + 2 * s) := Int.mul_le_mul_of_nonneg_right (by omega) hE
        rw [Int.add_mul, Int.one_mul] at h1
        omega
      · rw [h] at e; omega
      · have h1 : (v + 1) * (6 + 2 * s) ≤ (n : Int) * (6 + 2 * s) := Int.mul_le_mul_of_nonneg_right (by omega) hE
        rw [Int.add_mul, Int.one_mul] at h1
        omega
    have k0 := key 0 (by omega) (by omega) (by omega)
    have k1 := key 1 (by omega) (by omega) (by omega)
    have k2 := key (2 + s + 3) (by omega) (by omega) (by omega)
    rw [if_neg (by omega), if_neg (by omega), if_neg (by omega)]
    exact ih

/-- what is known of a pool's words -/
structure PoolWords (W : List Int) (s l : Int) (av : Nat) (avl : Int) (N : Nat) : Prop where
  len : W.length = N
  fit : av + 1 + s.toNat < N
  isav : rd W av = avl
  lease : ∀ u : Nat, u < s.toNat → 0 ≤ rd W (av + 1 + u) ∧ rd W (av + 1 + u) ≤ l
  all : ∀ i, -4398046511104 ≤ rd W i ∧ rd W i ≤ 4398046511104
theorem poolWords {t s g l r k : Int} {P L : List Int} (hR : Right t s g l r k P L) {v avl : Int} {Q : List Int} (hv : 0 ≤ v ∧ v < P.length) (ha : 0 ≤ avl ∧ avl ≤ 4294967295) :
    PoolWords (words8 s k l L P.length v avl Q) s l (v * (6 + 2 * s) + 1).toNat avl (P.length * (6 + 2 * s) + 2 * k).toNat := by
  have hs := hR.sb
  have hl := hR.l
  have hk := hR.k
  have hlen := hR.len
  have hm2 : (v + 1) * (6 + 2 * s) ≤ (P.length : Int) * (6 + 2 * s) := Int.mul_le_mul_of_nonneg_right (by omega) (by omega)
  rw [Int.add_mul, Int.one_mul] at hm2
  have h0 : 0 ≤ v * (6 + 2 * s) := Int.mul_nonneg hv.1 (by omega)
  have e1 : (v * (6 + 2 * s) + 2).toNat = (v * (6 + 2 * s) + 1).toNat + 1 := by omega
  have hW0 := freshW_length s k P.length L
  have hb : ∀ p, 0 ≤ rd (freshW s k P.length L) p ∧ rd (freshW s k P.length L) p ≤ 1099511627776 := fun p => freshW_bound (fun i hi => hR.lim i (by omega)) s P.length (by omega) _ p
  have hz : ∀ u : Nat, u < s.toNat → rd (freshW s k P.length L) ((v * (6 + 2 * s) + 1).toNat + 1 + u) = 0 := fun u hu => freshW_lease s hs.1 L P.length _ _ v u hv.1 ⟨by omega, by omega⟩ (by omega)
  have hmod : ∀ x : Int, 0 ≤ x % (l + 1) ∧ x % (l + 1) < l + 1 := fun x => ⟨Int.emod_nonneg x (by omega), Int.emod_lt_of_pos x (by omega)⟩
  refine ⟨words8_length _ _ _ _ _ _ _ _, by omega, ?_, ?_, ?_⟩
  · rw [words8, leaseW_rd, e1, if_neg (by omega), rd_set, if_pos ⟨rfl, by omega⟩]
  · intro u hu
    rw [words8, leaseW_rd, e1]
    split
    · have := hmod (rd Q ((v * (6 + 2 * s) + 1).toNat + 1 + u - ((v * (6 + 2 * s) + 1).toNat + 1))); omega
    · rw [rd_set, if_neg (by omega), hz u hu]; omega
  · intro i
    rw [words8, leaseW_rd, e1]
    split
    · have := hmod (rd Q (i - ((v * (6 + 2 * s) + 1).toNat + 1))); omega
    · rw [rd_set]
      split
      · omega
      · have := hb i; omega
end Go.Proofs.Ytonekdolmbdniaa
