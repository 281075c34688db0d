/- Round robin: whose turn it is, and how often. -/
import Derived.Test.YtjloccnbcgkmgaaPlay
namespace Go.Proofs.Ytjloccnbcgkmgaa
open Go.RowKit
set_option linter.unusedVariables false
set_option linter.unusedSimpArgs false
/-- how often machine k has its turn among the d rounds from round P on -/
def tc (len k P : Nat) : Nat → Nat
  | 0 => 0
  | d + 1 => tc len k P d + (if (P + d) % len = k then 1 else 0)
theorem tc_shift (len k P : Nat) (d : Nat) : tc len k P (d + 1) = (if P % len = k then 1 else 0) + tc len k (P + 1) d := by
  induction d with
  | zero => simp [tc]
  | succ d ih =>
    rw [tc, ih, tc, show P + (d + 1) = P + 1 + d from by omega]
    omega
theorem tc_zero (len k : Nat) (d : Nat) (hd : d ≤ len) : tc len k 0 d = if k < d then 1 else 0 := by
  induction d with
  | zero => simp [tc]
  | succ d ih =>
    rw [tc, ih (by omega), Nat.zero_add, Nat.mod_eq_of_lt (by omega)]
    by_cases h : d = k
    · subst h; simp
    · by_cases h2 : k < d
      · rw [if_pos h2, if_neg h, if_pos (by omega)]
      · rw [if_neg h2, if_neg h, if_neg (by omega)]
theorem tc_len (len k : Nat) (hk : k < len) (P : Nat) : tc len k P len = 1 := by
  induction P with
  | zero => rw [tc_zero len k len (Nat.le_refl _), if_pos hk]
  | succ P ih =>
    have h1 := tc_shift len k P len
    rw [tc, ih] at h1
    rw [Nat.add_mod_right] at h1
    omega
theorem tc_add (len k P d e : Nat) : tc len k P (d + e) = tc len k P d + tc len k (P + d) e := by
  induction e with
  | zero => rfl
  | succ e ih => rw [← Nat.add_assoc, tc, ih, tc, Nat.add_assoc P d e]; omega
theorem tc_rounds (len k : Nat) (hk : k < len) (P q : Nat) : tc len k P (q * len) = q := by
  induction q with
  | zero => simp [tc]
  | succ q ih => rw [Nat.succ_mul, tc_add, ih, tc_len len k hk]
end Go.Proofs.Ytjloccnbcgkmgaa
