/- MemCas: of Cas by many that loaded one number only one is done. -/
import Derived.Test.YtjpkepceenghcaaHeadThree
import Derived.Test.YtjpkepceenghcaaRowThree
namespace Go.Proofs.Ytjpkepceenghcaa
open Go.RowKit
set_option linter.unusedVariables false
set_option linter.unusedSimpArgs false

set_option maxHeartbeats 4000000 in
set_option maxRecDepth 100000 in
theorem memCas_walk {w : World} (x : Int) (hx : (Lit.int .i64 x).wf = true) {v : Value} (hc : ∃ l, IntsIn w v l) : Calls Try.prog 14 #[.int .i64 x, v] w (Ret (.bool true) w) := by
  obtain ⟨l, A, c, rfl, hl63, hl⟩ := hc
  have HL := hid hl
  clear hl hx
  go_enter Try.func14, Try.ntmps14
  go_wp2_with fail
  refine (law3_head _).mono ?_
  rintro e w1 ⟨rfl, hk⟩
  have HK1 : Hid (Keep0 w w1) := hid (Keep0.step (by repeat (with_reducible first | exact Keep.refl _ _ | apply Keep.alloc | apply Keep.drewN | apply Keep.drew)) hk)
  clear hk
  by_cases h100 : 100 < l.length
  · go_wp2
    go_ret
    exact ⟨rfl, HK1.out⟩
  · have hl100 : l.length ≤ 100 := by omega
    go_wp2_with fail
    refine (mem_New w.heap.size 1 _ HK1.out.size (by omega) (by omega)).mono ?_
    rintro e w2 ⟨m, a, lv2, rfl, hm, hk, hzm, hza⟩
    have HM2 := hid (show MemAt w.heap.size w2 m a lv2 [0] [] from hm)
    have HK2 : Hid (Keep0 w w2) := hid (Keep0.step HK1.out hk)
    have hzm' := Nat.le_trans HK1.out.size hzm
    have hza' := Nat.le_trans HK1.out.size hza
    have HLL := hid (show ∀ (w' : World) lv (W : List Int) L, MemAt w.heap.size w' m a lv W L → ∀ k, MF m a lv k → w.heap.size ≤ k from by
      rintro w' lv W L h k (rfl | rfl | h2)
      · exact hzm'
      · exact hza'
      · exact (h.log.lt k h2).1)
    clear hm hk HK1
    go_wp2_with fail
    refine Calls.mono (show Calls Try.prog 45 #[ptr m, i64 0, i64 x] w2 (fun e w' => e = .returned (.tuple #[]) ∧ MemAt w.heap.size w' m a lv2 [x] [] ∧ Keep (fun k => k = a) w2 w') from mem_Poke 0 x HM2.out (by decide) (by decide)) ?_
    rintro e w3 ⟨rfl, hm, hk⟩
    have HM3 := hid hm
    have HK3 : Hid (Keep0 w w3) := hid (keep_far HK2.out hk (by rintro k rfl; exact hza'))
    clear hm hk HM2 HK2
    go_wp2_with fail
    refine Calls.mono (show Calls Try.prog 46 #[ptr m, i64 0] w3 (fun e w' => e = .returned (i64 x) ∧ MemPost w.heap.size w3 m a lv2 [x] ([] ++ [⟨1, 0, x, 0, false⟩]) w') from mem_Load 0 HM3.out (by decide) (by simp) (by simp)) ?_
    rintro e w4 ⟨rfl, lv4, hm, hk, _⟩
    have HK4 : Hid (Keep0 w w4) := hid (keep_far HK3.out hk (HLL.out _ _ _ _ HM3.out))
    have HM4 := hid hm
    clear hm hk HM3 HK3
    go_wp2_with fail
    go_loopw [8, 9] (fun v8 v9 wr => ∃ i : Nat, i ≤ l.length ∧ v9 = .int .i64 i ∧ ∃ now : Int, v8 = i64 now ∧ ∃ lv L, L.length ≤ i + 1 ∧ MemAt w.heap.size wr m a lv [now] L ∧ Keep0 w wr) (fun _ v _ => l.length - (intOf v).toNat)
    case atStart => exact ⟨0, Nat.zero_le _, rfl, x, rfl, lv4, _, by simp, HM4.out, HK4.out⟩
    case round =>
      obtain ⟨i, hi, rfl, now, rfl, lv, L, hL, hm, hk⟩ := hrel
      clear HM4 HK4
      have HM := hid hm
      have HK := hid hk
      clear hm hk
      by_cases hlt : i < l.length
      · obtain ⟨b, o, rfl, hlc⟩ := (HL.out.keep HK.out).cell (by omega)
        have q := hlc i hlt
        have hlb := World.block_lt_of_cell? _ _ q
        simp only at hlb
        clear hlc
        go_wp2_with fail
        refine (mem_Cas 0 x (rd l i) HM.out (by decide) (by simp) (by omega)).mono ?_
        rintro e w5 ⟨rfl, lv5, hm, hk, _⟩
        have HK5 : Hid (Keep0 w w5) := hid (keep_far HK.out hk (HLL.out _ _ _ _ HM.out))
        have q5 := (HL.out.keep HK5.out).cell (by omega)
        obtain ⟨b', o', e', hlc⟩ := q5
        cases e'
        have q5 := hlc i hlt
        clear hlc
        cases hb : (now == x)
        · have hm5 := hm
          rw [show casW [now] (0 : Int).toNat x (rd l i) = [now] from by simp at hb; simp [casW, rd, hb]] at hm5
          rw [show (rd [now] (0 : Int).toNat == x) = false from by simpa [rd] using hb]
          have HM5 := hid hm5
          clear hm hm5 hk
          go_wp2_with fail
          go_roundw
          case rel => exact ⟨i + 1, by omega, by go_num, now, rfl, lv5, _, by simp; omega, HM5.out, HK5.out⟩
          case measure => simp [intOf]; omega
        · have hm5 := hm
          rw [show casW [now] (0 : Int).toNat x (rd l i) = [rd l i] from by simp at hb; simp [casW, rd, hb]] at hm5
          rw [show (rd [now] (0 : Int).toNat == x) = true from by simpa [rd] using hb]
          have HM5 := hid hm5
          clear hm hm5 hk
          go_wp2_with fail
          go_roundw
          case rel => exact ⟨i + 1, by omega, by go_num, _, rfl, lv5, _, by simp; omega, HM5.out, HK5.out⟩
          case measure => simp [intOf]; omega
      · go_wp2_with fail
        refine Calls.mono (show Calls Try.prog 46 #[ptr m, i64 0] wr (fun e w' => e = .returned (i64 now) ∧ MemPost w.heap.size wr m a lv [now] (L ++ [⟨1, 0, now, 0, false⟩]) w') from mem_Load 0 HM.out (by decide) (by simp) (by omega)) ?_
        rintro e w5 ⟨rfl, lv5, hm, hk, _⟩
        have HK5 : Hid (Keep0 w w5) := hid (keep_far HK.out hk (HLL.out _ _ _ _ HM.out))
        clear hm hk
        go_wp2_with fail
        go_ret
        exact ⟨rfl, HK5.out⟩
end Go.Proofs.Ytjpkepceenghcaa
