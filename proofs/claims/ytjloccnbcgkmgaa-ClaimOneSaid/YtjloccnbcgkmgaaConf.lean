/- Settings: breadlineref04.Right, in; breadlinelaw04.Great, Base. -/
import Derived.Test.YtjloccnbcgkmgaaPlan
namespace Go.Proofs.Ytjloccnbcgkmgaa
open Go.RowKit
set_option linter.unusedVariables false
set_option linter.unusedSimpArgs false

/-- a slice of numbers, as it lies: nil, or somewhere in a block -/
def IntsAt (w : World) (A : Option Addr) (l : List Int) : Prop := (l = []) ∨ ∃ b o, A = some ⟨b, o, none⟩ ∧ ∀ i, i < l.length → w.cell? ⟨b, o + i, none⟩ = some (i64 (rd l i))

def inB (n lo hi : Int) : Bool := decide (lo ≤ n ∧ n ≤ hi)
theorem inB_iff {n lo hi : Int} : inB n lo hi = true ↔ lo ≤ n ∧ n ≤ hi := by simp [inB]
theorem in_any (n lo hi : Int) (w : World) : Calls Try.prog 57 #[i64 n, i64 lo, i64 hi] w fun e w' => e = .returned (.bool (inB n lo hi)) ∧ w = w' := by
  by_cases h1 : lo ≤ n
  · by_cases h2 : n ≤ hi
    · have hb : inB n lo hi = true := inB_iff.2 ⟨h1, h2⟩
      rw [hb]
      clear hb
      go_enter Try.func57, Try.ntmps57
      go_wp2
      go_ret
      exact ⟨rfl, rfl⟩
    · have hb : inB n lo hi = false := by cases h : inB n lo hi; rfl; exact absurd (inB_iff.1 h).2 h2
      rw [hb]
      clear hb
      go_enter Try.func57, Try.ntmps57
      go_wp2
      go_ret
      exact ⟨rfl, rfl⟩
  · have hb : inB n lo hi = false := by cases h : inB n lo hi; rfl; exact absurd (inB_iff.1 h).1 h1
    rw [hb]
    clear hb
    go_enter Try.func57, Try.ntmps57
    go_wp2
    go_ret
    exact ⟨rfl, rfl⟩

/-- the limits and the parents from a place on are right -/
def restB (P L : List Int) : Nat → Nat → Bool
  | 0, _ => true
  | d + 1, i => (inB (rd L i) 0 1099511627776 && (if i = 0 then rd P i == -1 else inB (rd P i) 0 (i - 1))) && restB P L d (i + 1)
def stripesB (s : Int) : Bool := s == 1 || s == 2 || s == 4 || s == 8
def headB (t s g l r k : Int) (pn ln : Nat) : Bool :=
  inB t 1 8 && stripesB s && inB g 1 1048576 && inB l 0 1048576 && inB r 1 8 && inB k 1 16 && inB pn 1 12 && !((ln : Int) != pn)
def rightB (t s g l r k : Int) (P L : List Int) : Bool := headB t s g l r k P.length L.length && restB P L P.length 0
theorem stripes_cases {s : Int} (h : stripesB s = true) : s = 1 ∨ s = 2 ∨ s = 4 ∨ s = 8 := by
  simp [stripesB] at h; omega

theorem IntsAt.cell {w : World} {A : Option Addr} {l : List Int} (h : IntsAt w A l) (hl : 0 < l.length) : ∃ b o, A = some ⟨b, o, none⟩ ∧ (∀ i, i < l.length → w.cell? ⟨b, o + i, none⟩ = some (i64 (rd l i))) := by
  rcases h with rfl | h
  · simp at hl
  · exact h
theorem IntsAt.keep {w w' : World} {A : Option Addr} {l : List Int} (h : IntsAt w A l) (hk : Keep0 w w') : IntsAt w' A l := by
  rcases h with h | ⟨b, o, e1, h⟩
  · exact Or.inl h
  · refine Or.inr ⟨b, o, e1, fun i hi => ?_⟩
    rw [cell_old hk (World.block_lt_of_cell? _ _ (h i hi)) (fun x => x)]
    exact h i hi
theorem restB_stop (P L : List Int) (d i : Nat) (h : (inB (rd L i) 0 1099511627776 && (if i = 0 then rd P i == -1 else inB (rd P i) 0 (i - 1))) = false) : restB P L (d + 1) i = false := by simp only [restB, h, Bool.false_and]
theorem restB_go (P L : List Int) (d i : Nat) (h : (inB (rd L i) 0 1099511627776 && (if i = 0 then rd P i == -1 else inB (rd P i) 0 (i - 1))) = true) : restB P L (d + 1) i = restB P L d (i + 1) := by simp only [restB, h, Bool.true_and]

set_option maxHeartbeats 2000000 in
set_option maxRecDepth 100000 in
theorem ref_Right_no (t s g l r k : Int) (PA : Option Addr) (P : List Int) (pc : Nat) (LA : Option Addr) (L : List Int) (lc : Nat) (w : World) (hpl : P.length ≤ 1000) (hll : L.length ≤ 1000) (hh : headB t s g l r k P.length L.length = false) :
    Calls Try.prog 34 #[.agg #[i64 t, i64 s, i64 g, i64 l, i64 r, i64 k, .slice PA P.length pc, .slice LA L.length lc]] w (Ret (.bool (rightB t s g l r k P L)) w) := by
  have hr : rightB t s g l r k P L = false := by rw [rightB, hh]; rfl
  rw [hr]
  have HH := hid hh
  clear hh hr
  go_enter Try.func34, Try.ntmps34
  go_wp2_with (go_at_call 57; refine (in_any _ _ _ _).mono ?_; rintro e w' ⟨rfl, rfl⟩)
  all_goals first
    | (go_ret; exact ⟨rfl, (Keep.refl _ _).alloc _⟩)
    | (exfalso; have hf := HH.out; simp_all [headB, stripesB])

set_option maxHeartbeats 2000000 in
set_option maxRecDepth 100000 in
theorem ref_Right_yes (t s g l r k : Int) (PA : Option Addr) (P : List Int) (pc : Nat) (LA : Option Addr) (L : List Int) (lc : Nat) (w : World) (hP : IntsAt w PA P) (hL : IntsAt w LA L) (hpl : P.length ≤ 1000) (hll : L.length ≤ 1000) (hh : headB t s g l r k P.length L.length = true) :
    Calls Try.prog 34 #[.agg #[i64 t, i64 s, i64 g, i64 l, i64 r, i64 k, .slice PA P.length pc, .slice LA L.length lc]] w (Ret (.bool (rightB t s g l r k P L)) w) := by
  have hr : rightB t s g l r k P L = restB P L P.length 0 := by rw [rightB, hh]; rfl
  rw [hr]
  clear hr
  simp only [headB, Bool.and_eq_true] at hh
  obtain ⟨⟨⟨⟨⟨⟨⟨i1, i2⟩, i3⟩, i4⟩, i5⟩, i6⟩, i7⟩, i8⟩ := hh
  have hlen : L.length = P.length := by simp at i8; omega
  have hp1 := (inB_iff.1 i7).1
  have i8' : ((L.length : Int) != P.length) = false := by simpa using i8
  clear i8
  obtain ⟨pb, po, rfl, hpc⟩ := hP.cell (by omega)
  obtain ⟨lb, lo, rfl, hlc⟩ := hL.cell (by omega)
  have hpz := World.block_lt_of_cell? _ _ (hpc 0 (by omega))
  have hlz := World.block_lt_of_cell? _ _ (hlc 0 (by omega))
  simp only at hpz hlz
  have HLEN := hid hlen
  have HPC := hid hpc
  have HLC := hid hlc
  have hm : L.length ≤ P.length := by omega
  have hm' : P.length ≤ L.length := by omega
  clear hlen hpc hlc hP hL
  have hst := stripes_cases i2
  clear i2
  rcases hst with rfl | rfl | rfl | rfl
  all_goals
    go_enter Try.func34, Try.ntmps34
    go_wp2_with (go_at_call 57; refine (in_any _ _ _ _).mono ?_; rintro e w' ⟨rfl, rfl⟩)
    go_loop [3] (fun v => ∃ i : Nat, i ≤ P.length ∧ v = .int .i64 i ∧ restB P L (P.length - i) i = restB P L P.length 0) (fun v => P.length - (intOf v).toNat)
    case atStart => exact ⟨0, Nat.zero_le _, rfl, rfl⟩
    case round =>
      obtain ⟨i, hi, rfl, hre⟩ := hrel
      have HRE := hid hre
      clear hre
      by_cases hlt : i < P.length
      · have c1 := HPC.out i hlt
        have c2 := HLC.out i (by omega)
        have hd : P.length - i = (P.length - (i + 1)) + 1 := by omega
        have HD := hid hd
        clear hd
        cases b1 : inB (rd L i) 0 1099511627776
        · have hf : restB P L P.length 0 = false := by rw [← HRE.out, HD.out]; exact restB_stop _ _ _ _ (by rw [b1]; rfl)
          have HF := hid hf
          clear hf
          go_wp2_with (go_at_call 57; refine (in_any _ _ _ _).mono ?_; rintro e w' ⟨rfl, rfl⟩)
          rw [HF.out]
          go_ret
          exact ⟨rfl, (Keep.refl _ _).alloc _⟩
        · by_cases h0 : i = 0
          · subst h0
            simp only [Nat.add_zero] at c1 c2
            cases b2 : (rd P 0 != -1)
            · have hn : restB P L (P.length - (0 + 1)) (0 + 1) = restB P L P.length 0 := by rw [← HRE.out, HD.out]; exact (restB_go _ _ _ _ (by rw [b1, if_pos rfl]; simpa using b2)).symm
              have HN := hid hn
              clear hn
              go_wp2_with (go_at_call 57; refine (in_any _ _ _ _).mono ?_; rintro e w' ⟨rfl, rfl⟩)
              go_round
              case rel => exact ⟨1, by omega, by go_num, HN.out⟩
              case measure => simp [intOf]; omega
            · have hf : restB P L P.length 0 = false := by rw [← HRE.out, HD.out]; exact restB_stop _ _ _ _ (by rw [b1, if_pos rfl]; simpa using b2)
              have HF := hid hf
              clear hf
              go_wp2_with (go_at_call 57; refine (in_any _ _ _ _).mono ?_; rintro e w' ⟨rfl, rfl⟩)
              rw [HF.out]
              go_ret
              exact ⟨rfl, (Keep.refl _ _).alloc _⟩
          · have g1 : ((i : Int) == 0) = false := by simpa using h0
            have g2 : (0 : Int) < i := by omega
            cases b2 : inB (rd P i) 0 ((i : Int) - 1)
            · have hf : restB P L P.length 0 = false := by rw [← HRE.out, HD.out]; exact restB_stop _ _ _ _ (by rw [b1, if_neg h0, b2]; rfl)
              have HF := hid hf
              clear hf
              go_wp2_with (go_at_call 57; refine (in_any _ _ _ _).mono ?_; rintro e w' ⟨rfl, rfl⟩)
              rw [HF.out]
              go_ret
              exact ⟨rfl, (Keep.refl _ _).alloc _⟩
            · have hn : restB P L (P.length - (i + 1)) (i + 1) = restB P L P.length 0 := by rw [← HRE.out, HD.out]; exact (restB_go _ _ _ _ (by rw [b1, if_neg h0, b2]; rfl)).symm
              have HN := hid hn
              clear hn
              go_wp2_with (go_at_call 57; refine (in_any _ _ _ _).mono ?_; rintro e w' ⟨rfl, rfl⟩)
              go_round
              case rel => exact ⟨i + 1, by omega, by go_num, HN.out⟩
              case measure => simp [intOf]; omega
      · have hre2 : restB P L P.length 0 = true := by rw [← HRE.out, show P.length - i = 0 from by omega]; rfl
        have HF := hid hre2
        clear hre2
        go_wp2_with (go_at_call 57; refine (in_any _ _ _ _).mono ?_; rintro e w' ⟨rfl, rfl⟩)
        rw [HF.out]
        go_ret
        exact ⟨rfl, (Keep.refl _ _).alloc _⟩
end Go.Proofs.Ytjloccnbcgkmgaa
