/- MemOne: an access alters one word at most, the one that it names. -/
import Derived.Test.YtjpkepceenghcaaOpsRow
namespace Go.Proofs.Ytjpkepceenghcaa
open Go.RowKit
set_option linter.unusedVariables false
set_option linter.unusedSimpArgs false

set_option maxHeartbeats 4000000 in
set_option maxRecDepth 100000 in
theorem memOne_walk {w : World} (n : Int) (hn : (Lit.int .u8 n).wf = true) {v : Value} (hc : ∃ l, opsIn w v l) : Calls Try.prog 10 #[.int .u8 n, v] w (Ret (.bool true) w) := by
  obtain ⟨l, A, c, rfl, hl63, hl⟩ := hc
  have hn := bounds_u8 hn
  have HL := hid hl
  clear hl
  go_enter Try.func10, Try.ntmps10
  go_wp2_with fail
  refine (law3_head _).mono ?_
  rintro e w1 ⟨rfl, hk⟩
  have HK1 : Hid (Keep0 w w1) := hid (Keep0.step (by repeat (with_reducible first | exact Keep.refl _ _ | apply Keep.alloc | apply Keep.drewN | apply Keep.drew)) hk)
  clear hk
  by_cases h100 : 100 < l.length
  · go_wp2
    go_ret
    exact ⟨rfl, HK1.out⟩
  · have hl100 : l.length ≤ 100 := by omega
    have hk0 : 0 ≤ n % 20 := Int.emod_nonneg _ (by omega)
    have hk1 : n % 20 < 20 := Int.emod_lt_of_pos _ (by omega)
    go_wp2_with fail
    generalize n % 20 = kk at *
    obtain ⟨K, rfl⟩ := Int.eq_ofNat_of_zero_le hk0
    have hK : K < 20 := by omega
    refine (mem_New w.heap.size K _ HK1.out.size (by omega) (by omega)).mono ?_
    rintro e w2 ⟨m, a, lv2, rfl, hm, hk, hzm, hza⟩
    rw [Int.toNat_natCast] at hm
    have HM2 := hid hm
    have HK2 : Hid (Keep0 w w2) := hid (Keep0.step HK1.out hk)
    have hzm' := Nat.le_trans HK1.out.size hzm
    have hza' := Nat.le_trans HK1.out.size hza
    have HLL := hid (show ∀ (w' : World) lv (W : List Int) L, MemAt w.heap.size w' m a lv W L → ∀ k, MF m a lv k → w.heap.size ≤ k from by
      rintro w' lv W L h k (rfl | rfl | h2)
      · exact hzm'
      · exact hza'
      · exact (h.log.lt k h2).1)
    clear hm hk HK1
    go_wp2_with fail
    go_loopw [8] (fun v wr => ∃ i : Nat, i ≤ l.length ∧ v = .int .i64 i ∧ ∃ lv W L, W.length = K ∧ L.length ≤ i ∧ MemAt w.heap.size wr m a lv W L ∧ Keep0 w wr) (fun v _ => l.length - (intOf v).toNat)
    case atStart => exact ⟨0, Nat.zero_le _, rfl, lv2, _, [], by simp, by simp, HM2.out, HK2.out⟩
    case round =>
      obtain ⟨i, hi, rfl, lv, W, L, hW, hL, hm, hk⟩ := hrel
      clear HM2 HK2
      have HM := hid hm
      have HK := hid hk
      have HW := hid hW
      clear hm hk hW
      by_cases hlt : i < l.length
      · have hrow := (HL.out.keep HK.out).cell (by omega)
        obtain ⟨sb, so, rfl, hrow⟩ := hrow
        have q := hrow i hlt
        have HO := hid (fun w' (hk : Keep0 w w') => by
          have h := (HL.out.keep hk).cell (by omega)
          obtain ⟨b', o', e', h⟩ := h
          cases e'
          exact h i hlt)
        clear hrow
        obtain ⟨ok, ow, oa, ob, ho⟩ : ∃ ok ow oa ob, l[i] = MOp.mk ok ow oa ob := ⟨_, _, _, _, rfl⟩
        rw [ho] at q HO
        simp only at q HO
        clear ho
        go_wp2_with fail
        refine (law_right ⟨ok, ow, oa, ob⟩ K _).mono ?_
        rintro e w3 ⟨rfl, hk⟩
        have HM3 := hid (HM.out.same hk)
        have HK3 : Hid (Keep0 w w3) := hid (Keep0.step HK.out hk)
        clear hk HM HK
        cases hr : MOp.ok ⟨ok, ow, oa, ob⟩ K
        · go_wp2_with fail
          go_roundw
          case rel => exact ⟨i + 1, by omega, by go_num, lv, W, L, HW.out, by omega, HM3.out, HK3.out⟩
          case measure => simp [intOf]; omega
        · go_wp2_with fail
          refine (mem_Words HM3.out (by rw [HW.out]; omega)).mono ?_
          rintro e w4 ⟨g4, c4, rfl, hi4, hk, hg4⟩
          rw [HW.out]
          have HI4 := hid hi4
          have HM4 := hid (HM3.out.same hk)
          have HK4 : Hid (Keep0 w w4) := hid (Keep0.step HK3.out hk)
          have hmg : ¬ MF m a lv g4 := fun h => by have := MemAt.lt HM3.out g4 h; omega
          have q4 := HO.out _ HK4.out
          clear hi4 hk q HM3 HK3
          go_wp2_with fail
          refine (law_done ⟨ok, ow, oa, ob⟩ K HM4.out (by rw [HW.out]) hr (by omega)).mono ?_
          rintro e w5 ⟨rfl, lv5, hm, hk, _⟩
          have HK5 : Hid (Keep0 w w5) := hid (keep_far HK4.out hk (HLL.out _ _ _ _ HM4.out))
          have HI5 := hid (hk.ints HI4.out hmg)
          have HM5 := hid hm
          have hW5 : (opW ⟨ok, ow, oa, ob⟩ W).length = K := by rw [opW_length, HW.out]
          have hL5 : (L ++ opL ⟨ok, ow, oa, ob⟩ W).length ≤ i + 1 := by have := opL_length ⟨ok, ow, oa, ob⟩ W; simp; omega
          have HW5 := hid hW5
          clear hm hk q4 HI4 HM4 HK4 hW5
          go_wp2_with fail
          refine (mem_Words HM5.out (by rw [HW5.out]; omega)).mono ?_
          rintro e w6 ⟨g6, c6, rfl, hi6, hk, hg6⟩
          rw [HW5.out]
          have HI6 := hid hi6
          have HI56 := hid (hk.ints HI5.out (fun h => h))
          have HM6 := hid (HM5.out.same hk)
          have HK6 : Hid (Keep0 w w6) := hid (Keep0.step HK5.out hk)
          clear hi6 hk HI5 HM5 HK5
          have HOW := hid (fun j => opW_other ⟨ok, ow, oa, ob⟩ W j)
          have how : 0 ≤ ow := by simp [MOp.ok] at hr; omega
          generalize opW ⟨ok, ow, oa, ob⟩ W = W' at *
          generalize opP ⟨ok, ow, oa, ob⟩ W = pp at *
          go_wp2_with fail
          go_loopw [13] (fun v wr => ∃ j : Nat, j ≤ K ∧ v = .int .i64 j ∧ Keep0 w6 wr) (fun v _ => K - (intOf v).toNat)
          case atStart => exact ⟨0, Nat.zero_le _, rfl, Keep.refl _ _⟩
          case round =>
            obtain ⟨j, hj, rfl, hk⟩ := hrel
            have HKJ := hid hk
            have HKJ2 : Hid (Keep0 w wr) := hid (Keep0.step HK6.out hk)
            have q := HO.out _ HKJ2.out
            by_cases hjK : j < K
            · have c1 := (hk.ints HI56.out (fun h => h)).cell j (by rw [HW.out]; exact hjK)
              have c2 := (hk.ints HI6.out (fun h => h)).cell j (by rw [HW5.out]; exact hjK)
              have z1 := World.block_lt_of_cell? _ _ c1
              have z2 := World.block_lt_of_cell? _ _ c2
              simp only at z1 z2
              clear hk
              cases hd : (rd W j == rd W' j)
              · obtain ⟨f1, f2, f3⟩ := HOW.out j hd
                have f1 : ow.toNat = j := f1
                have f2 : ok ≠ 1 := f2
                have f3 : ok = 3 → pp = true := f3
                have hd' : (rd W j != rd W' j) = true := by simp [bne, hd]
                have e1 : ((j : Int) != ow) = false := by simp; omega
                have e2 : (ok == 1) = false := by simpa using f2
                clear f1 f2 hd
                cases h3 : (ok == 3)
                · clear f3
                  go_wp2_with fail
                  go_region
                  go_wp2_with fail
                  go_roundw
                  case rel => exact ⟨j + 1, by omega, by go_num, by repeat (with_reducible first | exact Keep.refl _ _ | exact HKJ.out | apply Keep.alloc | apply Keep.drewN | apply Keep.drew)⟩
                  case measure => simp [intOf]; omega
                · have hpp := f3 (by simpa using h3)
                  subst hpp
                  clear f3
                  go_wp2_with fail
                  go_region
                  go_wp2_with fail
                  go_roundw
                  case rel => exact ⟨j + 1, by omega, by go_num, by repeat (with_reducible first | exact Keep.refl _ _ | exact HKJ.out | apply Keep.alloc | apply Keep.drewN | apply Keep.drew)⟩
                  case measure => simp [intOf]; omega
              · have hd' : (rd W j != rd W' j) = false := by simp [bne, hd]
                clear hd
                go_wp2_with fail
                go_region
                go_wp2_with fail
                go_roundw
                case rel => exact ⟨j + 1, by omega, by go_num, by repeat (with_reducible first | exact Keep.refl _ _ | exact HKJ.out | apply Keep.alloc | apply Keep.drewN | apply Keep.drew)⟩
                case measure => simp [intOf]; omega
            · clear hk
              go_wp2_with fail
              go_roundw
              case rel => exact ⟨i + 1, by omega, by go_num, lv5, W', _, HW5.out, hL5, HM6.out.same HKJ.out, HKJ2.out⟩
              case measure => simp [intOf]; omega
      · go_wp2_with fail
        go_ret
        exact ⟨rfl, HK.out⟩
end Go.Proofs.Ytjpkepceenghcaa
