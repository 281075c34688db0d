/- PlanApart: no two words lie in one place, and every place of the memory is a word's: the words' numbers, one behind the other, are 0, 1, 2, .. -/
import Derived.Test.YtjpkepceenghcaaOwners
namespace Go.Proofs.Ytjpkepceenghcaa
open Go.ChangeShapes Go.WideShapes Go.ChangeAt Go.RowKit
set_option linter.unusedVariables false
set_option linter.unusedSimpArgs false

theorem rd_ll (n i : Nat) (h : i < n) : rd (ll n) i = i := by simp [rd, ll, h]
/-- the met words behind j rounds -/
def met (n j : Nat) : List Value := List.replicate j (.bool true) ++ List.replicate (n - j) (.bool false)
theorem met_get (n j : Nat) (h : j < n) : (met n j)[j]? = some (.bool false) := by
  rw [met, List.getElem?_append_right (by simp), List.length_replicate, List.getElem?_replicate, if_pos (by omega)]
theorem met_set (n j : Nat) (h : j < n) : (met n j).set j (.bool true) = met n (j + 1) := by
  unfold met
  obtain ⟨d, rfl⟩ : ∃ d, n = j + 1 + d := ⟨n - (j + 1), by omega⟩
  rw [show j + 1 + d - j = d + 1 from by omega, show j + 1 + d - (j + 1) = d from by omega, List.replicate_succ, List.replicate_succ']
  rw [List.set_append_right _ _ (by simp)]
  simp
theorem info_bool : (Try.prog.info? 4).map (fun i => (i.zero, i.size, i.bytes)) = some (some (.bool false), 1, 1) := by kernel_rfl
theorem made_bools (n : Nat) : madeCells (Value.bool false).cells n = (met n 0).toArray := by
  apply Array.ext
  · simp [madeCells, met, Value.cells]
  · intro i h1 h2
    have e : i % 1 = 0 := Nat.mod_one i
    simp [madeCells, Value.cells, met, e]
theorem ints_of_own {w : World} {B : Nat} {A : Option Addr} {n c : Nat} {l : List Int} (h : w.ownsRow B 3 1 (.slice A n c) n (ints l)) (hn : 0 < n) (hl : l.length = n) : ∃ g, A = some ⟨g, 0, none⟩ ∧ Ints w g l := by
  have hA : A ≠ none := fun e => by
    rcases h.2 with ⟨e', h0⟩ | ⟨g, cap, cur, e', _, _, _⟩
    · omega
    · cases e'; cases e
  subst hl
  obtain ⟨g, hg, hi, _⟩ := ints_of_row h hA
  exact ⟨g, hg, hi⟩

set_option maxHeartbeats 2000000 in
set_option maxRecDepth 100000 in
theorem planApart_walk {w : World} {v : Value} (hc : ConfIn w v) : Calls Try.prog 3 #[v] w (Ret (.bool true) w) := by
  obtain ⟨t, s, g, l, r, k, P, L, PA, pc, LA, lc, rfl, hP, hL, hp1, hl1⟩ := hc
  have HB0 : Hid (Blk (w.alloc (.cells #[i64 t, i64 s, i64 g, i64 l, i64 r, i64 k, .slice PA P.length pc, .slice LA L.length lc] 24)) w.heap.size 24 [i64 t, i64 s, i64 g, i64 l, i64 r, i64 k, .slice PA P.length pc, .slice LA L.length lc]) := hid (Blk.made rfl rfl)
  have HG := hid (fun (w' : World) (hk : Keep0 w w') => law_Good t s g l r k PA P pc LA L lc w' (hP.keep hk) (hL.keep hk) hp1 hl1)
  have HPP := hid hP
  have HLL := hid hL
  clear hP hL
  go_enter Try.func3, Try.ntmps3
  go_wp2_with fail
  refine (law5_head _).mono ?_
  rintro e w1 ⟨rfl, hk⟩
  have HK1 : Hid (Keep0 w w1) := hid (Keep0.step (by repeat (with_reducible first | exact Keep.refl _ _ | apply Keep.alloc | apply Keep.drewN | apply Keep.drew)) hk)
  have THB0 := hk.blk (show Blk _ _ _ _ from by repeat (with_reducible first | exact HB0.out | apply Blk.alloc | apply Blk.drewN | apply Blk.drew)) (fun h => h)
  clear hk HB0
  have HB0 := hid THB0; clear THB0
  have qHB0 := HB0.out.k8
  go_wp2_with fail
  refine (HG.out _ HK1.out).mono ?_
  rintro e w2 ⟨rfl, hk⟩
  have HK2 : Hid (Keep0 w w2) := hid (Keep0.step HK1.out hk)
  have THB0 := hk.blk HB0.out (fun h => h)
  clear hk HB0 qHB0
  have HB0 := hid THB0
  clear THB0
  have qHB0 := HB0.out.k8
  cases hgood : goodB t s g l r k P L
  · go_wp2
    go_ret
    exact ⟨rfl, HK2.out⟩
  · have R := Right.of hgood
    have hs := R.sb
    have hk := R.k
    have hp := R.p
    have HR := hid R
    clear R hgood hp1 hl1 HG
    obtain ⟨s, rfl⟩ := Int.eq_ofNat_of_zero_le (show 0 ≤ s by omega)
    obtain ⟨k, rfl⟩ := Int.eq_ofNat_of_zero_le (show 0 ≤ k by omega)
    go_wp2_with fail
    refine (law_owners t g l r s k PA P.length pc LA L.length lc _ (by omega) (by omega) (by omega) (by omega)).mono ?_
    rintro e w3 ⟨A, c, rfl, ho, hk⟩
    have hE : P.length * (6 + 2 * s) ≤ 12 * 22 := Nat.mul_le_mul (by omega) (by omega)
    have hEi : (P.length : Int) * (6 + 2 * (s : Int)) + 2 * (k : Int) = ((P.length * (6 + 2 * s) + 2 * k : Nat) : Int) := by simp
    have HEI := hid hEi
    clear hEi
    obtain ⟨gb, rfl, hi⟩ := ints_of_own ho (by omega) (ll_length _)
    have HK3 : Hid (Keep0 w w3) := hid (Keep0.step HK2.out hk)
    have HI := hid hi
    have T := hk.blk HB0.out (fun h => h)
    clear HB0 qHB0 ho hi hk
    have HB0 := hid T
    have qHB0 := T.k8
    clear T
    generalize hn : P.length * (6 + 2 * s) + 2 * k = n at *
    have hn1 : n ≤ 296 := by omega
    have hn0 : 0 < n := by omega
    go_wp2_with fail
    refine (plan_Size t s g l r k PA P.length pc LA L.length lc _ (by omega) (by omega) (by omega) (by omega) (by omega)).mono ?_
    rintro e w4 ⟨rfl, hk⟩
    have HK4 : Hid (Keep0 w w4) := hid (Keep0.step (by repeat (with_reducible first | exact Keep.refl _ _ | exact HK3.out | apply Keep.alloc | apply Keep.drewN | apply Keep.drew)) hk)
    have THB0 := hk.blk (show Blk _ _ _ _ from by repeat (with_reducible first | exact HB0.out | apply Blk.alloc | apply Blk.drewN | apply Blk.drew)) (fun h => h)
    have THI := hk.ints (show Ints _ _ _ from by repeat (with_reducible first | exact HI.out | apply Ints.alloc | apply Ints.drewN | apply Ints.drew)) (fun h => h)
    clear hk HB0 HI HK3
    have HB0 := hid THB0; clear THB0
    have HI := hid THI; clear THI
    have qHB0 := HB0.out.k8
    rw [HEI.out]
    obtain ⟨i0, hib, hz0, hz1, hz2⟩ := info_parts info_bool
    have hmk := fun w => run_make (P := Try.prog) w 29 4 i0 (.bool false) Try.underlying29 hib hz0 .i64 .i64 n n (by omega) (by omega) (by rw [hz2]; omega) (by omega)
    simp only [hz1, Nat.mul_one, made_bools, Int.toNat_natCast] at hmk
    clear hib hz0 hz1 hz2
    have hgt : decide ((10000 : Int) < (n : Int)) = false := by simp; omega
    go_wp2_with fail
    have HI0 := hid HI.out.lt
    have HM : Hid (Blk (w4.alloc (.cells (met n 0).toArray 4)) w4.heap.size 4 (met n 0)) := hid (Blk.made rfl rfl)
    go_loopw [7] (fun v7 wr => ∃ j : Nat, j ≤ n ∧ v7 = .int .i64 j ∧ Blk wr w4.heap.size 4 (met n j) ∧ Ints wr gb (ll n) ∧ Keep0 w wr) (fun v _ => n - (intOf v).toNat)
    case atStart => exact ⟨0, Nat.zero_le _, rfl, HM.out, HI.out.alloc _, HK4.out.alloc _⟩
    case round =>
      obtain ⟨j, hj, rfl, hm, hi, hkr⟩ := hrel
      clear HM HI
      have HM := hid hm
      have HI := hid hi
      have HKR := hid hkr
      by_cases hlt : j < n
      · have c1 : wr.cell? ⟨gb, j, none⟩ = some (i64 (j : Int)) := by rw [hi.cell j (by rw [ll_length]; exact hlt), rd_ll n j hlt]
        have c2 : wr.cell? ⟨w4.heap.size, j, none⟩ = some (.bool false) := by rw [hm.cell, met_get n j hlt]
        have c3 := hm.frozen j
        have l1 := hi.lt
        have l2 := hm.lt
        clear hm hi hkr
        go_wp2_with fail
        go_roundw
        case rel => exact ⟨j + 1, by omega, by go_num, by have h := HM.out.set j (.bool true); rw [met_set n j hlt] at h; exact h, ((Keep.refl (fun k => k = w4.heap.size) wr).set _ _ (fun _ => rfl)).ints HI.out (fun e => by have e' : gb = w4.heap.size := e; have h1 := HI0.out; omega), HKR.out.set _ _ (fun h => absurd h (by have := HK4.out.size; simp; omega))⟩
        case measure => simp [intOf]; omega
      · clear hm hi hkr
        go_wp2_with fail
        go_ret
        exact ⟨rfl, HKR.out⟩
end Go.Proofs.Ytjpkepceenghcaa
