/- breadlinelaw05.owners: all words, one behind the other. -/
import Derived.Test.YtjpkepceenghcaaPlanNamesW
import Derived.Deep.RegionLaw
namespace Go.Proofs.Ytjpkepceenghcaa
open Go.ChangeShapes Go.WideShapes Go.ChangeAt Go.RowKit
set_option linter.unusedVariables false
set_option linter.unusedSimpArgs false

theorem ll_two (n : Nat) : ints (ll n) ++ [i64 (n : Int), i64 ((n : Int) + 1)] = ints (ll (n + 1 + 1)) := by rw [ll_snoc, ints_snoc, ll_snoc, ints_snoc]; simp
theorem ll_one (n : Nat) : ints (ll n) ++ [i64 (n : Int)] = ints (ll (n + 1)) := by rw [ll_snoc, ints_snoc]

set_option maxHeartbeats 4000000 in
set_option maxRecDepth 100000 in
theorem law_owners (t g l r : Int) (s k : Nat) (PA : Option Addr) (pn pc : Nat) (LA : Option Addr) (ln lc : Nat) (w : World) (hs0 : 1 ≤ s) (hs1 : s ≤ 8) (hk1 : k ≤ 16) (hp : pn ≤ 12) :
    Calls Try.prog 17 #[.agg #[i64 t, i64 s, i64 g, i64 l, i64 r, i64 k, .slice PA pn pc, .slice LA ln lc]] w fun e w' => ∃ A c, e = .returned (.slice A (pn * (6 + 2 * s) + 2 * k) c) ∧ w'.ownsRow w.heap.size 3 1 (.slice A (pn * (6 + 2 * s) + 2 * k) c) (pn * (6 + 2 * s) + 2 * k) (ints (ll (pn * (6 + 2 * s) + 2 * k))) ∧ Keep0 w w' := by
  obtain ⟨i0, hti, hz0, hz1, hz2⟩ := info_parts info_int
  have HI := hid hti
  clear hti
  have HB0 : Hid (Blk (w.alloc (.cells #[i64 t, i64 s, i64 g, i64 l, i64 r, i64 k, .slice PA pn pc, .slice LA ln lc] 24)) w.heap.size 24 [i64 t, i64 s, i64 g, i64 l, i64 r, i64 k, .slice PA pn pc, .slice LA ln lc]) := hid (Blk.made rfl rfl)
  go_enter Try.func17, Try.ntmps17
  go_wp2_with fail
  go_loopw [3, 4] (fun v3 v4 wr => ∃ i : Nat, i ≤ pn ∧ v4 = .int .i64 i ∧ ∃ A c, v3 = .slice A (i * (6 + 2 * s)) c ∧ wr.ownsRow w.heap.size 3 1 (.slice A (i * (6 + 2 * s)) c) (i * (6 + 2 * s)) (ints (ll (i * (6 + 2 * s)))) ∧ Blk wr w.heap.size 24 [i64 t, i64 s, i64 g, i64 l, i64 r, i64 k, .slice PA pn pc, .slice LA ln lc] ∧ Keep0 w wr) (fun _ v _ => pn - (intOf v).toNat)
  case atStart => exact ⟨0, Nat.zero_le _, rfl, none, 0, by simp, by simpa [ll, ints] using World.ownsRow_nil _ _ _ _, HB0.out, (Keep.refl _ _).alloc _⟩
  case round =>
    obtain ⟨i, hi, rfl, A, c, rfl, ho, hb, hkr⟩ := hrel
    have HO := hid ho
    have HBB := hid hb
    have HKR := hid hkr
    have qb := hb.k8
    clear ho hb hkr
    by_cases hlt : i < pn
    · have hE : i * (6 + 2 * s) ≤ 12 * 22 := Nat.mul_le_mul (by omega) (by omega)
      have hEi : (i : Int) * (6 + 2 * (s : Int)) = ((i * (6 + 2 * s) : Nat) : Int) := by simp
      have HEI := hid hEi
      clear hEi
      have HKO : Hid (Keep0 wr wr) := hid (Keep.refl _ _)
      have HCB := HBB
      have HKC := HKR
      go_wp2_with fail
      generalize hm : i * (6 + 2 * s) = m at *
      have HM := hid hm
      clear hm
      go_region_law (first
        | (refine step_append_own ?a1 (.tmp 15) (.tmp 22) 22 ?a2 (w.heap.size) 3 i0 ?z 1 8 ?a3 ?a4 ?a5 ?a6 ?a7 ?a8 ?a9 (.slice A (m) c) (m) (ints (ll (m))) ?a10 ?hown (⟨w2.heap.size, 0, none⟩) (2) (2) ([i64 (m : Int), i64 ((m : Int) + 1)]) ?a11 ?a12 ?hnews ?hone ?h63 ?hby ?hbase ?_; (case a1 => rfl); (case a2 => rfl); (case a3 => exact Try.underlying22); (case a4 => exact HI.out); (case a5 => exact hz0); (case a6 => exact hz1); (case a7 => exact hz2); (case a8 => rfl); (case a9 => decide); (case a10 => rfl); (case a11 => rfl); (case a12 => rfl); (case hown => exact ownsRow_keep (S := fun _ => False) HO.out (by repeat (first | exact Keep.refl _ _ | exact HKO.out | apply Keep.drew | apply Keep.alloc)) (fun _ _ h => h)); (case h63 => unfold maxLen; omega); (case hby => omega); (case hnews => exact news_at (by repeat (first | exact Blk.made (by simp) rfl | apply Blk.drew))); (case hone => simp [Value.oneCell']); (case hbase => have := HCB.out.lt; simp; omega); intro A9 c9 w9 hown9 hg9 hsl9; have T := grown_blk hg9 (by repeat (first | exact HCB.out | apply Blk.drew | apply Blk.alloc)) (ownBlock_ne HO.out HBB.out (by decide)); have HC9 := hid T; have q9 := T.k8; have HO9 := hid hown9; have HK9 : Hid (Keep0 w w9) := hid (Keep.grown (by repeat (first | exact HKC.out | apply Keep.drew | apply Keep.alloc)) hg9 (fun k hk e => by have := (HO.out.lt k e).1; omega)); clear hown9 hg9 hsl9 T)
        | (go_simp; go_at_call 19; refine (plan_Limit t s g l r k PA pn pc LA ln lc i _ (by omega) (by omega) (by omega) (by omega)).mono ?_; rintro e w1 ⟨rfl, hk⟩; rw [HEI.out]; have T := hid (hk.blk (by repeat (first | exact HBB.out | apply Blk.drew)) (fun h => h)); have HKO2 : Hid (Keep0 wr w1) := hid (Keep0.step (by repeat (first | exact Keep.refl _ _ | apply Keep.drew)) hk); have HKC2 := hid (Keep0.step HKR.out HKO2.out); have qb1 := T.out.k8; clear HCB HKO HKC hk; have HCB := T; have HKO := HKO2; have HKC := HKC2; clear T HKO2 HKC2)
        | (go_simp; go_at_call 24; refine (plan_Avail t s g l r k PA pn pc LA ln lc i _ (by omega) (by omega) (by omega) (by omega)).mono ?_; rintro e w2 ⟨rfl, hk⟩; rw [HEI.out]; have T := hid (hk.blk (by repeat (first | exact HCB.out | apply Blk.drew)) (fun h => h)); have HKO2 := hid (Keep0.step HKO.out hk); have HKC2 := hid (Keep0.step HKC.out hk); have qb2 := T.out.k8; clear HCB HKO HKC hk; have HCB := T; have HKO := HKO2; have HKC := HKC2; clear T HKO2 HKC2))
      all_goals
        clear HO HKO HBB qb
        have HO := hid (show w9.ownsRow w.heap.size 3 1 (.slice A9 (m + 2 + 0) c9) (m + 2 + 0) (ints (ll (m + 2 + 0))) from by have h := HO9.out; rw [ll_two] at h; exact h)
        clear HCB HKC
        have HCB := HC9
        have HKC := HK9
        clear HC9 HK9 HO9
        go_wp2_with fail
        go_loopw [3, 5] (fun v3 v5 wq => ∃ j : Nat, j ≤ s ∧ v5 = .int .i64 j ∧ ∃ A c, v3 = .slice A (m + 2 + j) c ∧ wq.ownsRow w.heap.size 3 1 (.slice A (m + 2 + j) c) (m + 2 + j) (ints (ll (m + 2 + j))) ∧ Blk wq w.heap.size 24 [i64 t, i64 s, i64 g, i64 l, i64 r, i64 k, .slice PA pn pc, .slice LA ln lc] ∧ Keep0 w wq) (fun _ v _ => s - (intOf v).toNat)
        case atStart => exact ⟨0, Nat.zero_le _, rfl, _, _, rfl, HO.out, HCB.out, HKC.out⟩
        case round =>
          obtain ⟨j, hj, rfl, A, c, rfl, ho, hb, hkr⟩ := hrel
          clear HO HCB HKC
          have HO := hid ho
          have HBB := hid hb
          have HKC := hid hkr
          have qb := hb.k8
          clear ho hb hkr
          have HCB := HBB
          by_cases hjl : j < s
          · go_wp2_with (first | (go_at_call 21; refine (plan_Lease t s g l r k PA pn pc LA ln lc i j _ (by omega) (by omega) (by omega) (by omega) (by omega) (by omega)).mono ?_; rintro e w1 ⟨rfl, hk⟩; rw [HEI.out]; have T := hid (hk.blk HBB.out (fun h => h)); have HKC2 := hid (Keep0.step HKC.out hk); have HO2 := hid (ownsRow_keep HO.out hk (fun _ _ h => h)); have qb1 := T.out.k8; clear HCB HKC HO hk; have HCB := T; have HKC := HKC2; have HO := HO2; clear T HKC2 HO2) | (at_builtin; refine wpl_append_own ?a1 (.tmp 30) (.tmp 35) 22 ?a2 (w.heap.size) 3 i0 ?z 1 8 ?a3 ?a4 ?a5 ?a6 ?a7 ?a8 ?a9 (.slice A (m + 2 + j) c) (m + 2 + j) (ints (ll (m + 2 + j))) ?a10 ?hown (⟨w1.heap.size, 0, none⟩) (1) (1) ([i64 ((m : Int) + 2 + j)]) ?a11 ?a12 ?hnews ?hone ?h63 ?hby ?hbase ?_; (case a1 => rfl); (case a2 => rfl); (case a3 => exact Try.underlying22); (case a4 => exact HI.out); (case a5 => exact hz0); (case a6 => exact hz1); (case a7 => exact hz2); (case a8 => rfl); (case a9 => decide); (case a10 => rfl); (case a11 => rfl); (case a12 => rfl); (case hown => exact HO.out.alloc _); (case h63 => unfold maxLen; omega); (case hby => omega); (case hnews => exact news_at (by repeat (first | exact Blk.made (by simp) rfl | apply Blk.drew))); (case hone => simp [Value.oneCell']); (case hbase => have := HCB.out.lt; simp; omega); intro A9 c9 w9 hown9 hg9 hsl9; have T := grown_blk hg9 (by repeat (first | exact HCB.out | apply Blk.drew | apply Blk.alloc)) (ownBlock_ne HO.out HCB.out (by decide)); have HC9 := hid T; have q9 := T.k8; have HO9 := hid hown9; have HK9 : Hid (Keep0 w w9) := hid (Keep.grown (by repeat (first | exact HKC.out | apply Keep.drew | apply Keep.alloc)) hg9 (fun k hk e => by have := (HO.out.lt k e).1; omega)); clear hown9 hg9 hsl9 T))
            go_roundw
            case rel => exact ⟨j + 1, by omega, by go_num, A9, c9, rfl, (by have h := HO9.out; rw [show ((m : Int) + 2 + (j : Int)) = ((m + 2 + j : Nat) : Int) from by omega, ll_one] at h; exact h), HC9.out, HK9.out⟩
            case measure => simp [intOf]; omega
          · obtain rfl : s = j := by omega
            go_wp2_with fail
            go_loopw [3, 6] (fun v3 v6 wq => ∃ j : Nat, j ≤ (4 + s) ∧ v6 = .int .i64 j ∧ ∃ A c, v3 = .slice A (m + 2 + s + j) c ∧ wq.ownsRow w.heap.size 3 1 (.slice A (m + 2 + s + j) c) (m + 2 + s + j) (ints (ll (m + 2 + s + j))) ∧ Blk wq w.heap.size 24 [i64 t, i64 s, i64 g, i64 l, i64 r, i64 k, .slice PA pn pc, .slice LA ln lc] ∧ Keep0 w wq) (fun _ v _ => (4 + s) - (intOf v).toNat)
            case atStart => exact ⟨0, Nat.zero_le _, rfl, _, _, rfl, HO.out, HCB.out, HKC.out⟩
            case round =>
              obtain ⟨j, hj, rfl, A, c, rfl, ho, hb, hkr⟩ := hrel
              clear HO HCB HKC
              have HO := hid ho
              have HBB := hid hb
              have HKC := hid hkr
              have qb := hb.k8
              clear ho hb hkr
              have HCB := HBB
              by_cases hjl : j < (4 + s)
              · go_wp2_with (first | (go_at_call 20; refine (plan_Counter t s g l r k PA pn pc LA ln lc i _ (by omega) (by omega) (by omega) (by omega)).mono ?_; rintro e w1 ⟨rfl, hk⟩; rw [HEI.out]; have T := hid (hk.blk HBB.out (fun h => h)); have HKC2 := hid (Keep0.step HKC.out hk); have HO2 := hid (ownsRow_keep HO.out hk (fun _ _ h => h)); have qb1 := T.out.k8; clear HCB HKC HO hk; have HCB := T; have HKC := HKC2; have HO := HO2; clear T HKC2 HO2) | (at_builtin; refine wpl_append_own ?a1 (.tmp 44) (.tmp 50) 22 ?a2 (w.heap.size) 3 i0 ?z 1 8 ?a3 ?a4 ?a5 ?a6 ?a7 ?a8 ?a9 (.slice A (m + 2 + s + j) c) (m + 2 + s + j) (ints (ll (m + 2 + s + j))) ?a10 ?hown (⟨w1.heap.size, 0, none⟩) (1) (1) ([i64 ((m : Int) + 2 + s + j)]) ?a11 ?a12 ?hnews ?hone ?h63 ?hby ?hbase ?_; (case a1 => rfl); (case a2 => rfl); (case a3 => exact Try.underlying22); (case a4 => exact HI.out); (case a5 => exact hz0); (case a6 => exact hz1); (case a7 => exact hz2); (case a8 => rfl); (case a9 => decide); (case a10 => rfl); (case a11 => rfl); (case a12 => rfl); (case hown => exact HO.out.alloc _); (case h63 => unfold maxLen; omega); (case hby => omega); (case hnews => exact news_at (by repeat (first | exact Blk.made (by simp) rfl | apply Blk.drew))); (case hone => simp [Value.oneCell']); (case hbase => have := HCB.out.lt; simp; omega); intro A9 c9 w9 hown9 hg9 hsl9; have T := grown_blk hg9 (by repeat (first | exact HCB.out | apply Blk.drew | apply Blk.alloc)) (ownBlock_ne HO.out HCB.out (by decide)); have HC9 := hid T; have q9 := T.k8; have HO9 := hid hown9; have HK9 : Hid (Keep0 w w9) := hid (Keep.grown (by repeat (first | exact HKC.out | apply Keep.drew | apply Keep.alloc)) hg9 (fun k hk e => by have := (HO.out.lt k e).1; omega)); clear hown9 hg9 hsl9 T))
                go_roundw
                case rel => exact ⟨j + 1, by omega, by go_num, A9, c9, rfl, (by have h := HO9.out; rw [show ((m : Int) + 2 + (s : Int) + (j : Int)) = ((m + 2 + s + j : Nat) : Int) from by omega, ll_one] at h; exact h), HC9.out, HK9.out⟩
                case measure => simp [intOf]; omega
              · obtain rfl : (4 + s) = j := by omega
                go_wp2_with fail
                go_roundw
                case rel => exact ⟨i + 1, by omega, by go_num, _, _, by rw [show m + 2 + s + (4 + s) = (i + 1) * (6 + 2 * s) from by rw [Nat.succ_mul, HM.out]; omega], by have h := HO.out; rw [show m + 2 + s + (4 + s) = (i + 1) * (6 + 2 * s) from by rw [Nat.succ_mul, HM.out]; omega] at h; exact h, HBB.out, HKC.out⟩
                case measure => simp [intOf]; omega
    · obtain rfl : pn = i := by omega
      have hE : pn * (6 + 2 * s) ≤ 12 * 22 := Nat.mul_le_mul (by omega) (by omega)
      have hEi : (pn : Int) * (6 + 2 * (s : Int)) = ((pn * (6 + 2 * s) : Nat) : Int) := by simp
      have HEI := hid hEi
      clear hEi
      go_wp2_with fail
      generalize hm : pn * (6 + 2 * s) = m at *
      have HM := hid hm
      clear hm
      go_loopw [3, 7] (fun v3 v7 wr => ∃ j : Nat, j ≤ k ∧ v7 = .int .i64 j ∧ ∃ A c, v3 = .slice A (m + 2 * j) c ∧ wr.ownsRow w.heap.size 3 1 (.slice A (m + 2 * j) c) (m + 2 * j) (ints (ll (m + 2 * j))) ∧ Blk wr w.heap.size 24 [i64 t, i64 s, i64 g, i64 l, i64 r, i64 k, .slice PA pn pc, .slice LA ln lc] ∧ Keep0 w wr) (fun _ v _ => k - (intOf v).toNat)
      case atStart => exact ⟨0, Nat.zero_le _, rfl, _, _, rfl, HO.out, HBB.out, HKR.out⟩
      case round =>
        obtain ⟨j, hj, rfl, A, c, rfl, ho, hb, hkr⟩ := hrel
        clear HO HKR HBB
        have HO := hid ho
        have HBB := hid hb
        have HKR := hid hkr
        have qb := hb.k8
        clear ho hb hkr
        have HKO : Hid (Keep0 wr wr) := hid (Keep.refl _ _)
        have HCB := HBB
        have HKC := HKR
        by_cases hjl : j < k
        · have hw1 : IntKind.i64.wrap ((m : Int) + 2 * (j : Int) + 1) = (m : Int) + 2 * (j : Int) + 1 := IntWalk.i64_in _ (by omega)
          go_wp2_with fail
          go_region_law (first
            | (refine step_append_own ?a1 (.tmp 58) (.tmp 66) 22 ?a2 (w.heap.size) 3 i0 ?z 1 8 ?a3 ?a4 ?a5 ?a6 ?a7 ?a8 ?a9 (.slice A (m + 2 * j) c) (m + 2 * j) (ints (ll (m + 2 * j))) ?a10 ?hown (⟨w1.heap.size, 0, none⟩) (2) (2) ([i64 ((m : Int) + 2 * (j : Int)), i64 ((m : Int) + 2 * (j : Int) + 1)]) ?a11 ?a12 ?hnews ?hone ?h63 ?hby ?hbase ?_; (case a1 => rfl); (case a2 => rfl); (case a3 => exact Try.underlying22); (case a4 => exact HI.out); (case a5 => exact hz0); (case a6 => exact hz1); (case a7 => exact hz2); (case a8 => rfl); (case a9 => decide); (case a10 => rfl); (case a11 => rfl); (case a12 => rfl); (case hown => exact ownsRow_keep (S := fun _ => False) HO.out (by repeat (first | exact Keep.refl _ _ | exact HKO.out | apply Keep.drew | apply Keep.alloc)) (fun _ _ h => h)); (case h63 => unfold maxLen; omega); (case hby => omega); (case hnews => exact news_at (by repeat (first | exact Blk.made (by simp) rfl | apply Blk.drew))); (case hone => simp [Value.oneCell']); (case hbase => have := HCB.out.lt; simp; omega); intro A9 c9 w9 hown9 hg9 hsl9; have T := grown_blk hg9 (by repeat (first | exact HCB.out | apply Blk.drew | apply Blk.alloc)) (ownBlock_ne HO.out HBB.out (by decide)); have HC9 := hid T; have q9 := T.k8; have HO9 := hid hown9; have HK9 : Hid (Keep0 w w9) := hid (Keep.grown (by repeat (first | exact HKC.out | apply Keep.drew | apply Keep.alloc)) hg9 (fun k hk e => by have := (HO.out.lt k e).1; omega)); clear hown9 hg9 hsl9 T)
            | (go_simp; go_at_call 22; refine (plan_Ticket t s g l r k PA pn pc LA ln lc j _ (by omega) (by omega) (by omega) (by omega) (by omega)).mono ?_; rintro e w1 ⟨rfl, hk⟩; rw [HEI.out]; have T := hid (hk.blk (by repeat (first | exact HCB.out | apply Blk.drew)) (fun h => h)); have HKO2 : Hid (Keep0 wr w1) := hid (Keep0.step (by repeat (first | exact HKO.out | apply Keep.drew)) hk); have HKC2 := hid (Keep0.step HKR.out HKO2.out); have qb1 := T.out.k8; clear HCB HKO HKC hk; have HCB := T; have HKO := HKO2; have HKC := HKC2; clear T HKO2 HKC2))
          all_goals
            have HO := hid (show w9.ownsRow w.heap.size 3 1 (.slice A9 (m + 2 * (j + 1)) c9) (m + 2 * (j + 1)) (ints (ll (m + 2 * (j + 1)))) from by have h := HO9.out; rw [show ((m : Int) + 2 * (j : Int)) = ((m + 2 * j : Nat) : Int) from by omega, ll_two] at h; exact h)
            go_wp2_with fail
            go_roundw
            case rel => exact ⟨j + 1, by omega, by go_num, A9, c9, rfl, HO.out, HC9.out, HK9.out⟩
            case measure => simp [intOf]; omega
        · obtain rfl : k = j := by omega
          go_wp2_with fail
          go_ret
          rw [HM.out]; exact ⟨_, _, rfl, HO.out, HKR.out⟩
end Go.Proofs.Ytjpkepceenghcaa
