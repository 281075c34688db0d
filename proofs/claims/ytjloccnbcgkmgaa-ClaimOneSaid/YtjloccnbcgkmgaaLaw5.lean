/- breadlinelaw04.Base, Great; breadlinelaw05.head, Good. -/
import Derived.Test.YtjloccnbcgkmgaaFreshB
import Derived.Test.YtjloccnbcgkmgaaConf
namespace Go.Proofs.Ytjloccnbcgkmgaa
open Go.RowKit
set_option linter.unusedVariables false
set_option linter.unusedSimpArgs false

set_option maxHeartbeats 1000000 in
theorem law_Base (w : World) : Calls Try.prog 31 #[] w fun e w' => ∃ pb lb, e = .returned (.agg #[i64 2, i64 2, i64 4, i64 4, i64 2, i64 3, .slice (some ⟨pb, 0, none⟩) 4 4, .slice (some ⟨lb, 0, none⟩) 4 4]) ∧
    Keep0 w w' ∧ Blk w' pb 3 [i64 (-1), i64 0, i64 1, i64 0] ∧ Blk w' lb 3 [i64 20, i64 10, i64 8, i64 5] := by
  go_enter Try.func31, Try.ntmps31
  go_wp2
  have e : ∀ w', w' = ((w.alloc (.cells #[i64 2, i64 2, i64 4, i64 4, i64 2, i64 3, .slice (some ⟨w.heap.size + 1, 0, none⟩) 4 4, .slice (some ⟨w.heap.size + 1 + 1, 0, none⟩) 4 4] 24)).alloc (.cells #[i64 (-1), i64 0, i64 1, i64 0] 3)).alloc (.cells #[i64 20, i64 10, i64 8, i64 5] 3) →
      Keep0 w w' ∧ Blk w' (w.heap.size + 1) 3 [i64 (-1), i64 0, i64 1, i64 0] ∧ Blk w' (w.heap.size + 1 + 1) 3 [i64 20, i64 10, i64 8, i64 5] := by
    rintro w' rfl
    exact ⟨(((Keep.refl _ _).alloc _).alloc _).alloc _, (Blk.made (by simp) rfl).alloc _, Blk.made (by simp) rfl⟩
  exact bodyPost_ret (v := .agg #[i64 2, i64 2, i64 4, i64 4, i64 2, i64 3, .slice (some ⟨w.heap.size + 1, 0, none⟩) 4 4, .slice (some ⟨w.heap.size + 1 + 1, 0, none⟩) 4 4]) (by simp [results, Try.results31, go_sem]) rfl ⟨_, _, rfl, e _ rfl⟩

def greatB (pn ln : Nat) : Bool := decide (100 < (pn : Int)) || decide (100 < (ln : Int))
set_option maxHeartbeats 400000 in
theorem law_Great (t s g l r k : Int) (PA : Option Addr) (pn pc : Nat) (LA : Option Addr) (ln lc : Nat) (w : World) (h1 : pn ≤ 9223372036854775807) (h2 : ln ≤ 9223372036854775807) :
    Calls Try.prog 33 #[.agg #[i64 t, i64 s, i64 g, i64 l, i64 r, i64 k, .slice PA pn pc, .slice LA ln lc]] w (Ret (.bool (greatB pn ln)) w) := by
  go_enter Try.func33, Try.ntmps33
  go_wp2
  all_goals
    go_ret
    refine ⟨?_, (Keep.refl _ _).alloc _⟩
    simp_all [greatB]

def goodB (t s g l r k : Int) (P L : List Int) : Bool := !greatB P.length L.length && rightB t s g l r k P L
/-- what a right setting's numbers are -/
structure Right (t s g l r k : Int) (P L : List Int) : Prop where
  t : 1 ≤ t ∧ t ≤ 8
  s : s = 1 ∨ s = 2 ∨ s = 4 ∨ s = 8
  g : 1 ≤ g ∧ g ≤ 1048576
  l : 0 ≤ l ∧ l ≤ 1048576
  r : 1 ≤ r ∧ r ≤ 8
  k : 1 ≤ k ∧ k ≤ 16
  p : 1 ≤ P.length ∧ P.length ≤ 12
  len : L.length = P.length
  lim : ∀ i, i < P.length → 0 ≤ rd L i ∧ rd L i ≤ 1099511627776
  root : rd P 0 = -1
  par : ∀ i, 0 < i → i < P.length → 0 ≤ rd P i ∧ rd P i ≤ i - 1
theorem restB_all {P L : List Int} : ∀ d i, restB P L d i = true → ∀ j, i ≤ j → j < i + d → inB (rd L j) 0 1099511627776 = true ∧ (if j = 0 then rd P j = -1 else inB (rd P j) 0 (j - 1) = true) := by
  intro d
  induction d with
  | zero => intro i _ j h1 h2; omega
  | succ d ih =>
    intro i h j h1 h2
    simp only [restB, Bool.and_eq_true] at h
    by_cases e : j = i
    · subst e
      refine ⟨h.1.1, ?_⟩
      have := h.1.2
      split at this
      · rename_i h0; rw [if_pos h0]; simpa using this
      · rename_i h0; rw [if_neg h0]; exact this
    · exact ih _ h.2 j (by omega) (by omega)
theorem Right.of {t s g l r k : Int} {P L : List Int} (h : goodB t s g l r k P L = true) : Right t s g l r k P L := by
  simp only [goodB, rightB, headB, Bool.and_eq_true] at h
  obtain ⟨_, ⟨⟨⟨⟨⟨⟨⟨i1, i2⟩, i3⟩, i4⟩, i5⟩, i6⟩, i7⟩, i8⟩, i9⟩ := h
  have hr := restB_all _ _ i9
  have hp := inB_iff.1 i7
  have hl : L.length = P.length := by simp at i8; omega
  refine ⟨inB_iff.1 i1, stripes_cases i2, inB_iff.1 i3, inB_iff.1 i4, inB_iff.1 i5, inB_iff.1 i6, by omega, hl, fun i hi => inB_iff.1 (hr i (Nat.zero_le _) (by omega)).1, ?_, fun i h0 hi => ?_⟩
  · have := (hr 0 (Nat.le_refl _) (by omega)).2
    simpa using this
  · have := (hr i (Nat.zero_le _) (by omega)).2
    rw [if_neg (by omega)] at this
    exact inB_iff.1 this
theorem Right.sb {t s g l r k : Int} {P L : List Int} (h : Right t s g l r k P L) : 1 ≤ s ∧ s ≤ 8 := by have := h.s; omega

end Go.Proofs.Ytjloccnbcgkmgaa
