/- MemApart: words that were told, and logs, are not altered by what comes behind, nor do they alter anything. -/
import Derived.Test.YtjpkepceenghcaaOpsRow
import Derived.Test.YtjpkepceenghcaaGhost
namespace Go.Proofs.Ytjpkepceenghcaa
open Go.RowKit
set_option linter.unusedVariables false
set_option linter.unusedSimpArgs false

theorem mf_next {w : World} {m a g : Nat} {lv lv' : Value} (hl : ∀ k, lv'.ownBlock = some k → lv.ownBlock = some k ∨ w.heap.size ≤ k) (hg : g < w.heap.size) (h : ¬ MF m a lv g) : ¬ MF m a lv' g := by
  rintro (e | e | e)
  · exact h (Or.inl e)
  · exact h (Or.inr (Or.inl e))
  · rcases hl g e with e | e
    · exact h (Or.inr (Or.inr e))
    · omega
theorem Ints.blk {w : World} {g : Nat} {W : List Int} (h : Ints w g W) : ∃ cs, Blk w g 3 cs ∧ W.length ≤ cs.length := by
  obtain ⟨cur, h1, h2, _⟩ := h
  exact ⟨cur.toList, h1, by simpa using h2⟩
/-- a log that was told: a row of the call's own -/
def LogRow (w : World) (B : Nat) (A : Option Addr) (n : Nat) : Prop := (A = none ∧ n = 0) ∨ ∃ g cs, A = some ⟨g, 0, none⟩ ∧ B ≤ g ∧ Blk w g 58 cs ∧ n * 5 ≤ cs.length

theorem LogRow.keep {S : Nat → Prop} {w w' : World} {B : Nat} {A : Option Addr} {n : Nat} (h : LogRow w B A n) (hk : Keep S w w') (hS : ∀ k, B ≤ k → ¬ S k) : LogRow w' B A n := by
  rcases h with h | ⟨g, cs, e, hb, h, hn⟩
  · exact Or.inl h
  · exact Or.inr ⟨g, cs, e, hb, hk.blk h (hS g hb), hn⟩
set_option maxHeartbeats 1000000 in
theorem clone_log (B : Nat) (w : World) (lv : Value) (L : List Acc) (h : w.ownsRow B 58 5 lv L.length (accs L)) (hL : L.length ≤ 1000000000) :
    Calls Try.prog 55 #[lv] w fun e w' =>
      ∃ A c', e = .returned (.slice A L.length c') ∧ LogRow w' w.heap.size A L.length ∧ Keep (fun _ => False) w w' := by
  rcases h.2 with ⟨e, h0⟩ | ⟨g, cap, cur, e, _, _, _⟩
  · subst e
    have hl : L = [] := List.eq_nil_of_length_eq_zero h0
    subst hl
    clear h
    go_enter Try.func55, Try.ntmps55
    go_wp2
    go_ret
    exact ⟨none, 0, rfl, Or.inl ⟨rfl, rfl⟩, Keep.refl _ _⟩
  · subst e
    have hc := h.cells (g := g) rfl
    obtain ⟨i0, hti, hz0, hz1, hz2⟩ := info_parts info_acc
    have HI := hid hti
    have HC := hid hc
    clear hti hc h
    go_enter Try.func55, Try.ntmps55
    go_wp2_with (at_builtin; refine wpl_append_own ?a1 (.tmp 5) (.tmp 6) 38 ?a2 (w.heap.size) 58 i0 ?z 5 40 ?a3 ?a4 ?a5 ?a6 ?a7 ?a8 ?a9 (.slice (some ⟨w.heap.size, 0, none⟩) 0 0) (0) ([]) ?a10 ?hown (⟨g, 0, none⟩) (L.length) (cap) (accs L) ?a11 ?a12 ?hnews ?hone ?h63 ?hby ?hbase ?_; (case a1 => rfl); (case a2 => rfl); (case a3 => exact Try.underlying38); (case a4 => exact HI.out); (case a5 => exact hz0); (case a6 => exact hz1); (case a7 => exact hz2); (case a8 => rfl); (case a9 => decide); (case a10 => rfl); (case a11 => rfl); (case a12 => exact accs_length L); (case hown => exact World.ownsRow_made w #[] 0 (Nat.le_refl _) (by unfold maxLen; omega) (by simp)); (case h63 => unfold maxLen; omega); (case hby => omega); (case hnews => intro j u hj; have hc := HC.out j u hj; rw [World.cell?_alloc_lt _ _ _ (World.block_lt_of_cell? _ _ hc)]; exact hc); (case hone => exact accs_one L); (case hbase => simp); intro A c' w3 hown3 hg3 hsl3; have HW := hid hown3; have HG := hid hg3; have HS := hid hsl3; clear hown3 hg3 hsl3)
    have h0 := HW.out
    simp only [Nat.zero_add, List.nil_append] at h0
    have hrow : LogRow w3 w.heap.size A L.length := by
      rcases h0.2 with ⟨e, h1⟩ | ⟨g1, cap1, cur1, e, hb, hg, hn, _, hs, _⟩
      · obtain ⟨rfl, h2, _⟩ : A = none ∧ L.length = 0 ∧ c' = 0 := by simpa using e
        exact Or.inl ⟨rfl, h1⟩
      · obtain ⟨rfl, _⟩ : A = some ⟨g1, 0, none⟩ ∧ c' = cap1 := by simpa using e
        exact Or.inr ⟨g1, cur1.toList, rfl, hb, hg, by simp; omega⟩
    go_ret
    exact ⟨_, _, rfl, hrow, Keep.grown ((Keep.refl _ w).alloc _) HG.out (fun k hk e => by simp [Value.ownBlock] at e; omega)⟩

section
variable {B : Nat} {w : World} {m a : Nat} {lv : Value} {W : List Int} {L : List Acc}
set_option maxHeartbeats 400000 in
theorem mem_LogRow (hm : MemAt B w m a lv W L) (hL : L.length ≤ 1000000000) :
    Calls Try.prog 35 #[ptr m] w fun e w' => ∃ A c', e = .returned (.slice A L.length c') ∧ LogRow w' w.heap.size A L.length ∧ Keep (fun _ => False) w w' := by
  have hms := hm.mem.k2
  have H := clone_log B w lv L hm.log hL
  have HH := hid H
  clear hm H
  go_enter Try.func35, Try.ntmps35
  go_wp2_with fail
  refine HH.out.mono ?_
  rintro e w' ⟨A, c', rfl, hp⟩
  have HP := hid hp
  clear hp
  go_wp2_with fail
  go_ret
  exact ⟨A, c', rfl, HP.out⟩
end

set_option maxHeartbeats 4000000 in
set_option maxRecDepth 100000 in
theorem memApart_walk {w : World} (n : Int) (hn : (Lit.int .u8 n).wf = true) {v : Value} (hc : ∃ l, opsIn w v l) : Calls Try.prog 13 #[.int .u8 n, v] w (Ret (.bool true) w) := by
  obtain ⟨l, A, c, rfl, hl63, hl⟩ := hc
  have hn := bounds_u8 hn
  have HL := hid hl
  clear hl
  go_enter Try.func13, Try.ntmps13
  go_wp2_with fail
  refine (law3_head _).mono ?_
  rintro e w1 ⟨rfl, hk⟩
  have HK1 : Hid (Keep0 w w1) := hid (Keep0.step (by repeat (with_reducible first | exact Keep.refl _ _ | apply Keep.alloc | apply Keep.drewN | apply Keep.drew)) hk)
  clear hk
  by_cases h100 : 100 < l.length
  · go_wp2
    go_ret
    exact ⟨rfl, HK1.out⟩
  · by_cases hn0 : n = 0
    · have hl100 : l.length ≤ 100 := by omega
      subst hn0
      go_wp2
      go_ret
      exact ⟨rfl, HK1.out⟩
    have hl100 : l.length ≤ 100 := by omega
    have hnb : (n == 0) = false := by simpa using hn0
    have hk0 : 0 ≤ n % 20 := Int.emod_nonneg _ (by omega)
    have hk1 : n % 20 < 20 := Int.emod_lt_of_pos _ (by omega)
    go_wp2_with fail
    generalize hkk : n % 20 + 1 = kk at *
    have hk0 : 0 ≤ kk := by omega
    have hk1 : kk < 21 := by omega
    clear hkk
    obtain ⟨K, rfl⟩ := Int.eq_ofNat_of_zero_le hk0
    have hK : K < 21 := by omega
    refine (mem_New w.heap.size K _ HK1.out.size (by omega) (by omega)).mono ?_
    rintro e w2 ⟨m, a, lv2, rfl, hm, hk, hzm, hza⟩
    rw [Int.toNat_natCast] at hm
    have HM2 := hid hm
    have HK2 : Hid (Keep0 w w2) := hid (Keep0.step HK1.out hk)
    have hzm' := Nat.le_trans HK1.out.size hzm
    have hza' := Nat.le_trans HK1.out.size hza
    have HLL := hid (show ∀ (w' : World) lv (W : List Int) L, MemAt w.heap.size w' m a lv W L → ∀ k, MF m a lv k → w.heap.size ≤ k from by
      rintro w' lv W L h k (rfl | rfl | h2)
      · exact hzm'
      · exact hza'
      · exact (h.log.lt k h2).1)
    clear hm hk HK1
    go_wp2_with fail
    refine (mem_New w2.heap.size K _ (Nat.le_refl _) (by omega) (by omega)).mono ?_
    rintro e w3 ⟨m', a', lv3, rfl, hm, hk, _, _⟩
    rw [Int.toNat_natCast] at hm
    have HN3 := hid hm
    have HM3 := hid (HM2.out.same hk)
    have HK3 : Hid (Keep0 w w3) := hid (Keep0.step HK2.out hk)
    have HLL' := hid (show ∀ (w' : World) lv (W : List Int) L, MemAt w2.heap.size w' m' a' lv W L → ∀ k, MF m' a' lv k → w2.heap.size ≤ k from by
      rintro w' lv W L h k (rfl | rfl | h2)
      · exact h.bm
      · exact h.ba
      · exact (h.log.lt k h2).1)
    have hw2 := HK2.out.size
    have hD3 : ∀ k, MF m a lv2 k → ¬ MF m' a' lv3 k := fun k h1 h2 => by
      have := MemAt.lt HM2.out k h1
      have := HLL'.out _ _ _ _ HN3.out k h2
      omega
    clear hm hk HM2 HK2
    go_wp2_with fail
    go_loopw [9] (fun v wr => ∃ i : Nat, i ≤ l.length ∧ v = .int .i64 i ∧ ∃ lv lv' W L, W.length = K ∧ L.length ≤ i ∧ MemAt w.heap.size wr m a lv W L ∧ MemAt w2.heap.size wr m' a' lv' W L ∧ (∀ k, MF m a lv k → ¬ MF m' a' lv' k) ∧ Keep0 w wr) (fun v _ => l.length - (intOf v).toNat)
    case atStart => exact ⟨0, Nat.zero_le _, rfl, lv2, lv3, _, [], by simp, by simp, HM3.out, HN3.out, hD3, HK3.out⟩
    case round =>
      obtain ⟨i, hi, rfl, lv, lv', W, L, hW, hL, hm, hr, hD, hk⟩ := hrel
      clear HM3 HK3 HN3 hD3
      have HM := hid hm
      have HN := hid hr
      have HK := hid hk
      have HW := hid hW
      clear hm hr hk hW
      by_cases hlt : i < l.length
      · have hrow := (HL.out.keep HK.out).cell (by omega)
        obtain ⟨sb, so, rfl, hrow⟩ := hrow
        have q := hrow i hlt
        have HO := hid (fun w' (hk : Keep0 w w') => by
          have h := (HL.out.keep hk).cell (by omega)
          obtain ⟨b', o', e', h⟩ := h
          cases e'
          exact h i hlt)
        clear hrow
        obtain ⟨ok, ow, oa, ob, ho⟩ : ∃ ok ow oa ob, l[i] = MOp.mk ok ow oa ob := ⟨_, _, _, _, rfl⟩
        rw [ho] at q HO
        simp only at q HO
        clear ho
        go_wp2_with fail
        refine (law_right ⟨ok, ow, oa, ob⟩ K _).mono ?_
        rintro e w3 ⟨rfl, hk⟩
        have HM3 := hid (HM.out.same hk)
        have HN3 := hid (HN.out.same hk)
        have HK3 : Hid (Keep0 w w3) := hid (Keep0.step HK.out hk)
        clear hk HM HK HN q
        cases hr : MOp.ok ⟨ok, ow, oa, ob⟩ K
        · go_wp2_with fail
          go_roundw
          case rel => exact ⟨i + 1, by omega, by go_num, lv, lv', W, L, HW.out, by omega, HM3.out, HN3.out, hD, HK3.out⟩
          case measure => simp [intOf]; omega
        · go_wp2_with fail
          refine (mem_Words HM3.out (by rw [HW.out]; omega)).mono ?_
          rintro e w4 ⟨g4, c4, rfl, hi4, hk, hg4⟩
          rw [HW.out]
          obtain ⟨cs4, hb4, hcs4⟩ := hi4.blk
          rw [HW.out] at hcs4
          have HB4 := hid hb4
          have hg44 := hb4.lt
          have HM4 := hid (HM3.out.same hk)
          have HN4 := hid (HN3.out.same hk)
          have HK4 : Hid (Keep0 w w4) := hid (Keep0.step HK3.out hk)
          have hw34 := hk.size
          have HK3' := hid HK3.out.size
          have hmf : ∀ k, w3.heap.size ≤ k → ¬ MF m a lv k := fun k h1 h2 => by have := MemAt.lt HM3.out k h2; omega
          have hnf : ∀ k, w3.heap.size ≤ k → ¬ MF m' a' lv' k := fun k h1 h2 => by have := MemAt.lt HN3.out k h2; omega
          clear hi4 hb4 hk HM3 HN3 HK3
          go_wp2_with fail
          refine (mem_LogRow HM4.out (by omega)).mono ?_
          rintro e w5 ⟨A5, c5, rfl, hr5, hk⟩
          have HR5 := hid hr5
          have HB5 := hid (hk.blk HB4.out (fun h => h))
          have HM5 := hid (HM4.out.same hk)
          have HN5 := hid (HN4.out.same hk)
          have HK5 : Hid (Keep0 w w5) := hid (Keep0.step HK4.out hk)
          have q5 := HO.out _ HK5.out
          clear hr5 hk HB4 HM4 HN4 HK4
          go_wp2_with fail
          refine (law_done ⟨ok, ow, oa, ob⟩ K HM5.out (by rw [HW.out]) hr (by omega)).mono ?_
          rintro e w6 ⟨rfl, lv6, hm, hk, hl⟩
          have HK6 : Hid (Keep0 w w6) := hid (keep_far HK5.out hk (HLL.out _ _ _ _ HM5.out))
          have HB6 := hid (hk.blk HB5.out (hmf g4 hg4))
          have HR6 := hid (HR5.out.keep hk (fun k h => hmf k (by omega)))
          have HN6 := hid (HN5.out.keep hk (fun k h1 h2 => hD k h2 h1))
          have HM6 := hid hm
          have hD6 : ∀ k, MF m' a' lv' k → ¬ MF m a lv6 k := fun k h1 => mf_next hl (MemAt.lt HN5.out k h1) (fun h => hD k h h1)
          have hm6 : ∀ k, k < w5.heap.size → w3.heap.size ≤ k → ¬ MF m a lv6 k := fun k h1 h2 => mf_next hl h1 (hmf k h2)
          have hw56 := hk.size
          have q6 := HO.out _ HK6.out
          clear hm hk hl q5 HM5 HN5 HK5
          go_wp2_with fail
          refine (law_done ⟨ok, ow, oa, ob⟩ K HN6.out (by rw [HW.out]) hr (by omega)).mono ?_
          rintro e w7 ⟨rfl, lv7, hm, hk, hl⟩
          have HK7 : Hid (Keep0 w w7) := hid (keep_far HK6.out hk (fun k h => Nat.le_trans hw2 (HLL'.out _ _ _ _ HN6.out k h)))
          have HB7 := hid (hk.blk HB6.out (hnf g4 hg4))
          have HR7 := hid (HR6.out.keep hk (fun k h => hnf k (by omega)))
          have HM7 := hid (HM6.out.keep hk (fun k h1 h2 => hD6 k h2 h1))
          have HN7 := hid hm
          have hD7 : ∀ k, MF m a lv6 k → ¬ MF m' a' lv7 k := fun k h1 => mf_next hl (MemAt.lt HM6.out k h1) (fun h => hD6 k h h1)
          have hn7 : ∀ k, k < w5.heap.size → w3.heap.size ≤ k → ¬ MF m' a' lv7 k := fun k h1 h2 => mf_next hl (by omega) (hnf k h2)
          have hg45 := HB5.out.lt
          have hW5 : (opW ⟨ok, ow, oa, ob⟩ W).length = K := by rw [opW_length, HW.out]
          have hL5 : (L ++ opL ⟨ok, ow, oa, ob⟩ W).length ≤ i + 1 := by have := opL_length ⟨ok, ow, oa, ob⟩ W; simp; omega
          have HW5 := hid hW5
          have HR5' := HR5
          clear hm hk hl q6 HM6 HN6 HK6 HB6 HR6 HR5 HB5 hW5
          generalize opW ⟨ok, ow, oa, ob⟩ W = W5 at *
          generalize L ++ opL ⟨ok, ow, oa, ob⟩ W = L5 at *
          generalize opP ⟨ok, ow, oa, ob⟩ W = pp at *
          generalize opX ⟨ok, ow, oa, ob⟩ W = xx at *
          go_wp2_with fail
          go_loopw [16] (fun v wr => ∃ j : Nat, j ≤ K ∧ v = .int .i64 j ∧ ∃ cs, Blk wr g4 3 cs ∧ K ≤ cs.length ∧ Keep (fun k => k = g4) w7 wr) (fun v _ => K - (intOf v).toNat)
          case atStart => exact ⟨0, Nat.zero_le _, rfl, cs4, HB7.out, hcs4, Keep.refl _ _⟩
          case round =>
            obtain ⟨j, hj, rfl, cs, hb, hcs, hk⟩ := hrel
            have HBJ := hid hb
            have HKJ := hid hk
            by_cases hjK : j < K
            · have c1 : wr.cell? ⟨g4, j, none⟩ = some (cs[j]'(by omega)) := by rw [hb.cell j]; exact List.getElem?_eq_getElem _
              have f1 := hb.frozen j
              have z1 := hb.lt
              clear hb hk
              go_wp2_with fail
              go_roundw
              case rel => exact ⟨j + 1, by omega, by go_num, _, HBJ.out.set j _, by simpa using hcs, HKJ.out.set _ _ (fun _ => rfl)⟩
              case measure => simp [intOf]; omega
            · clear hb hk
              have HR8 := hid (HR7.out.keep HKJ.out (fun k h e => by have e' : k = g4 := e; omega))
              have HM8 := hid (HM7.out.keep HKJ.out (fun k h e => by have e' : k = g4 := e; subst e'; exact hm6 k hg45 hg4 h))
              have HN8 := hid (HN7.out.keep HKJ.out (fun k h e => by have e' : k = g4 := e; subst e'; exact hn7 k hg45 hg4 h))
              have HK8 : Hid (Keep0 w wr) := hid (keep_far HK7.out HKJ.out (fun k e => by have e' : k = g4 := e; have := HK3'.out; omega))
              clear HM7 HN7 HK7 HR7 HKJ HBJ HB7
              go_wp2_with fail
              go_loopw [17] (fun v wz => ∃ j : Nat, j ≤ L.length ∧ v = .int .i64 j ∧ LogRow wz w4.heap.size A5 L.length ∧ Keep (fun k => A5 = some ⟨k, 0, none⟩) wr wz) (fun v _ => L.length - (intOf v).toNat)
              case atStart => exact ⟨0, Nat.zero_le _, rfl, HR8.out, Keep.refl _ _⟩
              case round =>
                obtain ⟨j, hj, rfl, hrow, hk⟩ := hrel
                have HRJ := hid hrow
                have HKJ := hid hk
                by_cases hjK : j < L.length
                · rcases hrow with ⟨_, h0⟩ | ⟨g, cs, rfl, hgb, hb, hcs⟩
                  · omega
                  · have c1 : wr.cell? ⟨g, j * 5 + 1, none⟩ = some (cs[j * 5 + 1]'(by omega)) := by rw [hb.cell]; exact List.getElem?_eq_getElem _
                    have f1 := hb.frozen (j * 5 + 1)
                    have z1 := hb.lt
                    have HBZ := hid hb
                    clear hb hk
                    go_wp2_with fail
                    go_roundw
                    case rel => exact ⟨j + 1, by omega, by go_num, Or.inr ⟨g, _, rfl, hgb, HBZ.out.set (j * 5 + 1) _, by simpa using hcs⟩, HKJ.out.set _ _ (fun _ => rfl)⟩
                    case measure => simp [intOf]; omega
                · clear hrow hk
                  have h5 : ∀ k, A5 = some ⟨k, 0, none⟩ → w3.heap.size ≤ k ∧ k < w5.heap.size := fun k e => by
                    rcases HR5'.out with ⟨e', _⟩ | ⟨g, cs, e', hgb, hb, _⟩
                    · rw [e'] at e; cases e
                    · rw [e'] at e; cases e; have := hb.lt; omega
                  have HM9 := hid (HM8.out.keep HKJ.out (fun k h e => hm6 k (h5 k e).2 (h5 k e).1 h))
                  have HN9 := hid (HN8.out.keep HKJ.out (fun k h e => hn7 k (h5 k e).2 (h5 k e).1 h))
                  have HK9 : Hid (Keep0 w wr) := hid (keep_far HK8.out HKJ.out (fun k e => by have := h5 k e; have := HK3'.out; omega))
                  clear HM8 HN8 HK8 HKJ HRJ
                  go_wp2_with fail
                  refine (mem_Words HM9.out (by rw [HW5.out]; omega)).mono ?_
                  rintro e wa ⟨ga, ca, rfl, hia, hk, _⟩
                  have HIA := hid hia
                  have HMA := hid (HM9.out.same hk)
                  have HNA := hid (HN9.out.same hk)
                  have HKA : Hid (Keep0 w wa) := hid (Keep0.step HK9.out hk)
                  clear hia hk HM9 HN9 HK9
                  go_wp2_with fail
                  refine (mem_Words HNA.out (by rw [HW5.out]; omega)).mono ?_
                  rintro e wb ⟨gb, cb, rfl, hib, hk, _⟩
                  have HIB := hid hib
                  have HIA2 := hid (hk.ints HIA.out (fun h => h))
                  have HMB := hid (HMA.out.same hk)
                  have HNB := hid (HNA.out.same hk)
                  have HKB : Hid (Keep0 w wb) := hid (Keep0.step HKA.out hk)
                  clear hib hk HMA HNA HKA HIA
                  go_wp2_with fail
                  refine (same_ints _ _ W5 _ _ _ HIA2.out.at_ HIB.out.at_ (by rw [HW5.out]; omega)).mono ?_
                  rintro e wc ⟨rfl, hk⟩
                  have HMC := hid (HMB.out.same hk)
                  have HNC := hid (HNB.out.same hk)
                  have HKC : Hid (Keep0 w wc) := hid (Keep0.step HKB.out hk)
                  clear hk HMB HNB HKB HIA2 HIB
                  go_wp2_with fail
                  refine (mem_Log HMC.out (by omega)).mono ?_
                  rintro e wd ⟨Ad, cd, rfl, had, hk⟩
                  have HAD := hid had
                  have HMD := hid (HMC.out.same hk)
                  have HND := hid (HNC.out.same hk)
                  have HKD : Hid (Keep0 w wd) := hid (Keep0.step HKC.out hk)
                  clear hk had HMC HNC HKC
                  go_wp2_with fail
                  refine (mem_Log HND.out (by omega)).mono ?_
                  rintro e we ⟨Ae, ce, rfl, hae, hk⟩
                  have HAE := hid hae
                  have HAD2 := hid (HAD.out.keep hk)
                  have HME := hid (HMD.out.same hk)
                  have HNE := hid (HND.out.same hk)
                  have HKE : Hid (Keep0 w we) := hid (Keep0.step HKD.out hk)
                  clear hk hae HMD HND HKD HAD
                  go_wp2_with fail
                  refine (same_log Ad Ae L5 cd ce _ HAD2.out HAE.out (by omega)).mono ?_
                  rintro e wf ⟨rfl, hk⟩
                  have HMF := hid (HME.out.same hk)
                  have HNF := hid (HNE.out.same hk)
                  have HKF : Hid (Keep0 w wf) := hid (Keep0.step HKE.out hk)
                  clear hk HME HNE HKE HAD2 HAE
                  go_wp2_with fail
                  refine (mem_Words HMF.out (by rw [HW5.out]; omega)).mono ?_
                  rintro e wg ⟨gg, cg, rfl, _, hk, _⟩
                  rw [HW5.out]
                  have HMG := hid (HMF.out.same hk)
                  have HNG := hid (HNF.out.same hk)
                  have HKG : Hid (Keep0 w wg) := hid (Keep0.step HKF.out hk)
                  clear hk HMF HNF HKF
                  go_wp2_with fail
                  go_roundw
                  case rel => exact ⟨i + 1, by omega, by go_num, lv6, lv7, W5, L5, HW5.out, hL5, HMG.out, HNG.out, hD7, HKG.out⟩
                  case measure => simp [intOf]; omega
      · go_wp2_with fail
        go_ret
        exact ⟨rfl, HK.out⟩
end Go.Proofs.Ytjpkepceenghcaa
