/- PlanFresh: a fresh memory, word by word. -/
import Derived.Test.YtjpkepceenghcaaGhost
import Derived.Test.YtjpkepceenghcaaLaw5
import Derived.Test.YtjpkepceenghcaaRow
import Derived.Deep.DeepCutAuto
namespace Go.Proofs.Ytjpkepceenghcaa
open Go.ChangeShapes Go.WideShapes Go.ChangeAt Go.RowKit
set_option linter.unusedVariables false
set_option linter.unusedSimpArgs false

def PTrip (n0 : Nat) (a b c : Int) (v : Value) (w : World) : Prop := ∃ k, v = .slice (some ⟨k, 0, none⟩) 3 3 ∧ Blk w k 3 [i64 a, i64 b, i64 c] ∧ n0 ≤ k
theorem PTrip.keep {n0 : Nat} {a b c : Int} {v : Value} {w w' : World} (h : PTrip n0 a b c v w) (hk : Keep0 w w') : PTrip n0 a b c v w' := by
  obtain ⟨k, e, h, h2⟩ := h
  exact ⟨k, e, hk.blk h (fun h => h), h2⟩
def freshD (n0 : Nat) (a b c : Int) : Nat → Value → World → Prop
  | 10 => PTrip n0 a b c
  | 11 => PTrip n0 a b c
  | _ => fun _ _ => True
theorem freshD_stable {n0 : Nat} {a b c : Int} : Stable (freshD n0 a b c) := by
  intro i v w w' h hk
  unfold freshD at *
  split at h <;> first | exact h.keep hk | trivial

set_option maxHeartbeats 4000000 in
set_option maxRecDepth 100000 in
theorem planFresh_walk {w : World} {v : Value} (hc : ConfIn w v) : Calls Try.prog 8 #[v] w (Ret (.bool true) w) := by
  obtain ⟨t, s, g, l, r, k, P, L, PA, pc, LA, lc, rfl, hP, hL, hp1, hl1⟩ := hc
  have HB0 : Hid (Blk (w.alloc (.cells #[i64 t, i64 s, i64 g, i64 l, i64 r, i64 k, .slice PA P.length pc, .slice LA L.length lc] 24)) w.heap.size 24 [i64 t, i64 s, i64 g, i64 l, i64 r, i64 k, .slice PA P.length pc, .slice LA L.length lc]) := hid (Blk.made rfl rfl)
  have HG := hid (fun (w' : World) (hk : Keep0 w w') => law_Good t s g l r k PA P pc LA L lc w' (hP.keep hk) (hL.keep hk) hp1 hl1)
  have HPP := hid hP
  have HLL := hid hL
  clear hP hL
  go_enter Try.func8, Try.ntmps8
  go_wp2_with fail
  refine (law5_head _).mono ?_
  rintro e w1 ⟨rfl, hk⟩
  have HK1 : Hid (Keep0 w w1) := hid (Keep0.step (by repeat (with_reducible first | exact Keep.refl _ _ | apply Keep.alloc | apply Keep.drewN | apply Keep.drew)) hk)
  have THB0 := hk.blk (show Blk _ _ _ _ from by repeat (with_reducible first | exact HB0.out | apply Blk.alloc | apply Blk.drewN | apply Blk.drew)) (fun h => h)
  clear hk HB0
  have HB0 := hid THB0; clear THB0
  have qHB0 := HB0.out.k8
  go_wp2_with fail
  refine (HG.out _ HK1.out).mono ?_
  rintro e w2 ⟨rfl, hk⟩
  have HK2 : Hid (Keep0 w w2) := hid (Keep0.step HK1.out hk)
  have THB0 := hk.blk HB0.out (fun h => h)
  clear hk HB0 qHB0
  have HB0 := hid THB0
  clear THB0
  have qHB0 := HB0.out.k8
  cases hgood : goodB t s g l r k P L
  · go_wp2
    go_ret
    exact ⟨rfl, HK2.out⟩
  · have R := Right.of hgood
    have hs := R.sb
    have hk := R.k
    have hp := R.p
    have HR := hid R
    clear R hgood hp1 hl1 HG
    have hmm := mul_bd 100 22 (show (0 : Int) ≤ P.length by omega) (by omega) (show 0 ≤ 6 + 2 * s by omega) (by omega)
    have hpl : P.length ≤ L.length := by have := HR.out.len; omega
    obtain ⟨lb, lo, rfl, hlc⟩ := HLL.out.cell (by omega)
    have HLC := hid (fun w' (hk : Keep0 w w') i (hi : i < P.length) => (cell_old hk (World.block_lt_of_cell? _ _ (hlc i (by omega))) (fun h => h) _).trans (hlc i (by omega)))
    have hlb := World.block_lt_of_cell? _ _ (hlc 0 (by omega))
    simp only at hlb
    have hfl := freshW_length s k P.length L
    have HFL := hid hfl
    have hsz : (P.length : Int) * (6 + 2 * s) + 2 * k = ((freshW s k P.length L).length : Int) := by rw [hfl]; omega
    have HSZ := hid hsz
    have hN0 : 0 < (freshW s k P.length L).length := by omega
    have hN1 : (freshW s k P.length L).length ≤ 10000 := by omega
    clear hlc hfl hsz
    go_wp2_with fail
    refine (plan_Fresh 0 _ lb lo t s g l r k PA P.length pc L.length lc L (Nat.zero_le _) hs.1 hs.2 (by omega) (by omega) (by omega) hpl (HLC.out _ HK2.out) (Nat.lt_of_lt_of_le hlb HK2.out.size)).mono ?_
    rintro e w3 ⟨m, a, lv, rfl, hm, hk, _, _⟩
    have HM := hid hm
    have HK3 : Hid (Keep0 w w3) := hid (Keep0.step HK2.out hk)
    have THB0 := hk.blk HB0.out (fun h => h)
    clear hm hk HB0 qHB0
    have HB0 := hid THB0
    clear THB0
    go_wp2_with fail
    refine (mem_Words HM.out (by omega)).mono ?_
    rintro e w4 ⟨g2, c2, rfl, hi, hk, _⟩
    have HI := hid hi
    have HM4 := hid (HM.out.same hk)
    have HK4 : Hid (Keep0 w w4) := hid (Keep0.step HK3.out hk)
    have THB0 := hk.blk HB0.out (fun h => h)
    clear hi hk HB0
    have HB0 := hid THB0
    have qHB0 := THB0.k8
    clear THB0 HM
    generalize hW : freshW s k P.length L = W0 at *
    go_wp2_with fail
    refine (plan_Size t s g l r k PA P.length pc (some ⟨lb, lo, none⟩) L.length lc _ hs.1 hs.2 (by omega) (by omega) (by omega)).mono ?_
    rintro e w5 ⟨rfl, hk⟩
    have HK5 : Hid (Keep0 w w5) := hid (Keep0.step (by repeat (with_reducible first | exact Keep.refl _ _ | exact HK4.out | apply Keep.alloc | apply Keep.drewN | apply Keep.drew)) hk)
    have THB0 := hk.blk (show Blk _ _ _ _ from by repeat (with_reducible first | exact HB0.out | apply Blk.alloc | apply Blk.drewN | apply Blk.drew)) (fun h => h)
    have THI := hk.ints (show Ints _ _ _ from by repeat (with_reducible first | exact HI.out | apply Ints.alloc | apply Ints.drewN | apply Ints.drew)) (fun h => h)
    have HM5 := hid (HM4.out.same hk)
    clear hk HB0 HI HK4 HM4
    have HB0 := hid THB0; clear THB0
    have HI := hid THI; clear THI
    have qHB0 := HB0.out.k8
    
    rw [HSZ.out]
    go_wp2_with fail
    refine (mem_Len HM5.out).mono ?_
    rintro e w6 ⟨rfl, rfl⟩
    go_wp2_with fail
    refine (mem_Log HM5.out (by simp)).mono ?_
    rintro e w6 ⟨A6, c6, rfl, _, hk⟩
    have HK6 : Hid (Keep0 w w6) := hid (Keep0.step HK5.out hk)
    have HI6 := hid (hk.ints HI.out (fun h => h))
    have HB6 := hid (hk.blk HB0.out (fun h => h))
    have qb6 := HB6.out.k8
    clear hk HI HB0 qHB0 HM5 HK5
    obtain ⟨i0, hib, hz0, hz1, hz2⟩ := info_parts info_int
    have hmk := fun w => run_make (P := Try.prog) w 22 3 i0 (.int .i64 0) Try.underlying22 hib hz0 .i64 .i64 W0.length W0.length (by omega) (by omega) (by rw [hz2]; omega) (by omega)
    simp only [hz1, Nat.mul_one, made_ints, Int.toNat_natCast] at hmk
    clear hib hz0 hz1 hz2
    go_wp2_with fail
    have HV : Hid (Blk (w6.alloc (.cells (ints (List.replicate W0.length 0)).toArray 3)) w6.heap.size 3 (ints (List.replicate W0.length 0))) := hid (Blk.made rfl rfl)
    have HC7 := hid (HB6.out.alloc (.cells (ints (List.replicate W0.length 0)).toArray 3))
    have HI7 := hid (HI6.out.alloc (.cells (ints (List.replicate W0.length 0)).toArray 3))
    have HK7 : Hid (Keep0 w (w6.alloc (.cells (ints (List.replicate W0.length 0)).toArray 3))) := hid (HK6.out.alloc _)
    have hlw : lb ≠ w6.heap.size := by have := HK6.out.size; omega
    have hcw : w.heap.size ≠ w6.heap.size := by have := HB6.out.lt; omega
    have hgw : g2 ≠ w6.heap.size := by have := HI6.out.lt; omega
    have hw6 : w6.heap.size < (w6.alloc (.cells (ints (List.replicate W0.length 0)).toArray 3)).heap.size := by simp
    generalize w6.alloc (.cells (ints (List.replicate W0.length 0)).toArray 3) = w7 at *
    have qc7 := HC7.out.k8
    go_loopw [7] (fun v wr => ∃ i : Nat, i ≤ P.length ∧ v = .int .i64 i ∧ Blk wr w6.heap.size 3 (ints (layN s L i (List.replicate W0.length 0))) ∧ Keep (fun k => k = w6.heap.size) w7 wr) (fun v _ => P.length - (intOf v).toNat)
    case atStart => exact ⟨0, Nat.zero_le _, rfl, HV.out, Keep.refl _ _⟩
    case round =>
      obtain ⟨i, hi, rfl, hv, hkr⟩ := hrel
      clear HV
      have HV := hid hv
      have HKR := hid hkr
      have HCR := hid (hkr.blk HC7.out hcw)
      have qcr := HCR.out.k8
      clear hv hkr qc7
      by_cases hlt : i < P.length
      · have h1 : ((i : Int) + 1) * (6 + 2 * s) ≤ (P.length : Int) * (6 + 2 * s) := Int.mul_le_mul_of_nonneg_right (by omega) (by omega)
        have h2 : ((i : Int) + 1) * (6 + 2 * s) = i * (6 + 2 * s) + (6 + 2 * s) := by rw [Int.add_mul, Int.one_mul]
        have h3 := mul_bd 100 22 (show (0 : Int) ≤ i by omega) (by omega) (show 0 ≤ 6 + 2 * s by omega) (by omega)
        have y3 : IntKind.i64.wrap ((i : Int) * (6 + 2 * s) + 2 + s + 3) = i * (6 + 2 * s) + 2 + s + 3 := IntWalk.i64_in _ (by omega)
        obtain ⟨p0, hp0⟩ := Int.eq_ofNat_of_zero_le (show 0 ≤ (i : Int) * (6 + 2 * s) by omega)
        obtain ⟨p1, hp1⟩ := Int.eq_ofNat_of_zero_le (show 0 ≤ (i : Int) * (6 + 2 * s) + 1 by omega)
        obtain ⟨p2, hp2⟩ := Int.eq_ofNat_of_zero_le (show 0 ≤ (i : Int) * (6 + 2 * s) + 2 + s + 3 by omega)
        have hlay : layN s L (i + 1) (List.replicate W0.length 0) = (((layN s L i (List.replicate W0.length 0)).set p0 (rd L i)).set p1 (rd L i)).set p2 1 := by
          rw [layN, layW, show ((i : Int) * (6 + 2 * s)).toNat = p0 from by omega, show ((i : Int) * (6 + 2 * s) + 1).toNat = p1 from by omega, show ((i : Int) * (6 + 2 * s) + 2 + s + 3).toNat = p2 from by omega]
        have hwl : (layN s L i (List.replicate W0.length 0)).length = W0.length := by rw [layN_length, List.length_replicate]
        have b0 : p0 < W0.length := by have := HSZ.out; omega
        have b1 : p1 < W0.length := by have := HSZ.out; omega
        have b2 : p2 < W0.length := by have := HSZ.out; omega
        have HP0 := hid hp0
        have HP1 := hid hp1
        have HP2 := hid hp2
        have HLAY := hid hlay
        have HWL := hid hwl
        clear hp0 hp1 hp2 hlay hwl
        generalize layN s L i (List.replicate W0.length 0) = V at *
        go_upto_region 12 with fail
        go_cut [8] (fun v8 wx => ∃ b, v8 = .slice (some ⟨b, 0, none⟩) 3 3 ∧ Blk wx b 3 [i64 p0, i64 p1, i64 p2] ∧ wr.heap.size ≤ b ∧ Keep0 wr wx)
        case first =>
          apply wp_region_free (WI := fun S gh wx => Keep0 wr wx ∧ Blk wx w.heap.size 24 [i64 t, i64 s, i64 g, i64 l, i64 r, i64 k, .slice PA P.length pc, .slice (some ⟨lb, lo, none⟩) L.length lc] ∧ GWI (freshD wr.heap.size (i * (6 + 2 * s)) (i * (6 + 2 * s) + 1) (i * (6 + 2 * s) + 2 + s + 3)) S gh wx) (by kernel_rfl) (by kernel_rfl)
          case hob =>
            apply ObligF.fixed
            case h =>
              intro S gh w1 hwi hSi hd hcl
              apply StepOk.intro
              intro K hK
              have cb1 := hwi.2.1.k8
              go_simp
              apply hK
              · rfl
              · conv => (lhs; whnf)
              · exact ⟨hwi.1, hwi.2.1, GWI.fixed hwi.2.2 trivial⟩
            simp only [put_lit, put_none, List.set_cons_succ, List.set_cons_zero]
            apply ObligF.fixed
            case h =>
              intro S gh w1 hwi hSi hd hcl
              apply StepOk.intro
              intro K hK
              have cb1 := hwi.2.1.k8
              go_simp
              apply hK
              · rfl
              · conv => (lhs; whnf)
              · exact ⟨hwi.1, hwi.2.1, GWI.fixed hwi.2.2 trivial⟩
            simp only [put_lit, put_none, List.set_cons_succ, List.set_cons_zero]
            apply ObligF.fixed
            case h =>
              intro S gh w1 hwi hSi hd hcl
              apply StepOk.intro
              intro K hK
              have cb1 := hwi.2.1.k8
              go_simp
              refine (plan_Limit t s g l r k PA P.length pc (some ⟨lb, lo, none⟩) L.length lc i _ hs.1 hs.2 (by omega) (by omega)).mono ?_
              rintro e w2 ⟨rfl, hk⟩
              apply hK
              · rfl
              · conv => (lhs; whnf)
              · exact ⟨Keep0.step hwi.1 hk, hk.blk hwi.2.1 (fun h => h), GWI.fixed (hwi.2.2.keep freshD_stable hk) trivial⟩
            simp only [put_lit, put_none, List.set_cons_succ, List.set_cons_zero]
            apply ObligF.fixed
            case h =>
              intro S gh w1 hwi hSi hd hcl
              apply StepOk.intro
              intro K hK
              have cb1 := hwi.2.1.k8
              go_simp
              apply hK
              · rfl
              · conv => (lhs; whnf)
              · exact ⟨hwi.1, hwi.2.1, GWI.fixed hwi.2.2 trivial⟩
            simp only [put_lit, put_none, List.set_cons_succ, List.set_cons_zero]
            apply ObligF.fixed
            case h =>
              intro S gh w1 hwi hSi hd hcl
              apply StepOk.intro
              intro K hK
              have cb1 := hwi.2.1.k8
              go_simp
              apply hK
              · rfl
              · conv => (lhs; whnf)
              · exact ⟨hwi.1, hwi.2.1, GWI.fixed hwi.2.2 trivial⟩
            simp only [put_lit, put_none, List.set_cons_succ, List.set_cons_zero]
            apply ObligF.fixed
            case h =>
              intro S gh w1 hwi hSi hd hcl
              apply StepOk.intro
              intro K hK
              have cb1 := hwi.2.1.k8
              go_simp
              refine (plan_Avail t s g l r k PA P.length pc (some ⟨lb, lo, none⟩) L.length lc i _ hs.1 hs.2 (by omega) (by omega)).mono ?_
              rintro e w2 ⟨rfl, hk⟩
              apply hK
              · rfl
              · conv => (lhs; whnf)
              · exact ⟨Keep0.step hwi.1 hk, hk.blk hwi.2.1 (fun h => h), GWI.fixed (hwi.2.2.keep freshD_stable hk) trivial⟩
            simp only [put_lit, put_none, List.set_cons_succ, List.set_cons_zero]
            apply ObligF.fixed
            case h =>
              intro S gh w1 hwi hSi hd hcl
              apply StepOk.intro
              intro K hK
              have cb1 := hwi.2.1.k8
              go_simp
              apply hK
              · rfl
              · conv => (lhs; whnf)
              · exact ⟨hwi.1, hwi.2.1, GWI.fixed hwi.2.2 trivial⟩
            simp only [put_lit, put_none, List.set_cons_succ, List.set_cons_zero]
            apply ObligF.fixed
            case h =>
              intro S gh w1 hwi hSi hd hcl
              apply StepOk.intro
              intro K hK
              have cb1 := hwi.2.1.k8
              go_simp
              apply hK
              · rfl
              · conv => (lhs; whnf)
              · exact ⟨hwi.1, hwi.2.1, GWI.fixed hwi.2.2 trivial⟩
            simp only [put_lit, put_none, List.set_cons_succ, List.set_cons_zero]
            apply ObligF.fixed
            case h =>
              intro S gh w1 hwi hSi hd hcl
              apply StepOk.intro
              intro K hK
              have cb1 := hwi.2.1.k8
              go_simp
              refine (plan_Counter t s g l r k PA P.length pc (some ⟨lb, lo, none⟩) L.length lc i _ hs.1 hs.2 (by omega) (by omega)).mono ?_
              rintro e w2 ⟨rfl, hk⟩
              apply hK
              · rfl
              · conv => (lhs; whnf)
              · exact ⟨Keep0.step hwi.1 hk, hk.blk hwi.2.1 (fun h => h), GWI.fixed (hwi.2.2.keep freshD_stable hk) trivial⟩
            simp only [put_lit, put_none, List.set_cons_succ, List.set_cons_zero]
            apply ObligF.fixed
            case h =>
              intro S gh w1 hwi hSi hd hcl
              apply StepOk.intro
              intro K hK
              have cb1 := hwi.2.1.k8
              go_simp
              apply hK
              · rfl
              · conv => (lhs; whnf)
              · exact ⟨hwi.1, hwi.2.1, GWI.fixed hwi.2.2 trivial⟩
            simp only [put_lit, put_none, List.set_cons_succ, List.set_cons_zero]
            apply ObligF.free
            case h =>
              intro S gh w1 hwi hSi hd hcl
              apply StepG.intro
              intro K hK
              go_simp
              apply hK
              · rfl
              · exact ⟨hwi.1.alloc _, hwi.2.1.alloc _, GWI.free (hwi.2.2.keep freshD_stable ((Keep.refl _ _).alloc _)) ⟨_, rfl, Blk.made rfl rfl, hwi.1.size⟩⟩
            simp only [put_lit, put_none, List.set_cons_succ, List.set_cons_zero]
            apply ObligF.free
            case h =>
              intro S gh w1 hwi hSi hd hcl
              apply StepG.intro
              intro K hK
              obtain ⟨b1, e1, hb1⟩ := hwi.2.2 10 (hd ⟨10, .data⟩ (by simp) rfl)
              rw [e1]
              go_simp
              apply hK
              · rfl
              · exact ⟨hwi.1, hwi.2.1, GWI.free hwi.2.2 ⟨b1, rfl, hb1⟩⟩
            simp only [put_lit, put_none, List.set_cons_succ, List.set_cons_zero]
            exact ObligF.nil
          case h0 =>
            exact ⟨(Keep.refl _ _).drew, HCR.out.drew, GWI.start _ _ _⟩
          case hend =>
            intro S gh wx hwi hall
            obtain ⟨b1, e1, hb1, hb2⟩ := hwi.2.2 11 (hall 11 (by decide))
            go_wp2_with fail
            go_meet
            rw [HP2.out, HP1.out, HP0.out] at hb1
            exact ⟨b1, e1, hb1, hb2, hwi.1⟩
        case rest =>
          obtain ⟨b, rfl, hb, hbn, hkx⟩ := hcut
          have hbl := hb.lt
          have hbw : b ≠ w6.heap.size := by have := HKR.out.size; omega
          have HT := hid hb
          have qt := hb.k3
          have HV2 := hid (hkx.blk HV.out (fun h => h))
          have HC2 := hid (hkx.blk HCR.out (fun h => h))
          have qc2 := HC2.out.k8
          have HK8 := hid (HKR.out.trans (hkx.to (S := fun k => k = w6.heap.size)) (fun _ _ h => h))
          have x2 := (cell_old HK8.out (Nat.lt_of_lt_of_le hlb HK7.out.size) hlw (lo + i)).trans (HLC.out _ HK7.out i hlt)
          have hil : i < L.length := by omega
          have v2 := HV2.out.cell p0
          rw [ints_get _ _ (by rw [HWL.out]; exact b0)] at v2
          have f2 := HV2.out.frozen p0
          have hv2l := HV2.out.lt
          clear hb hkx qcr HV HCR HKR
          go_wp2_with fail
          go_loop [9] (fun v => ∃ j : Nat, j ≤ 3 ∧ v = .int .i64 j) (fun v => 3 - (intOf v).toNat)
          case atStart => exact ⟨0, by omega, rfl⟩
          case round =>
            obtain ⟨j, hj, rfl⟩ := hrel
            by_cases hj3 : j < 3
            · obtain rfl | rfl | rfl : j = 0 ∨ j = 1 ∨ j = 2 := by omega
              · go_wp2_with fail
                go_round
                case rel => exact ⟨1, by omega, by go_num⟩
                case measure => simp [intOf]
              · go_wp2_with fail
                go_round
                case rel => exact ⟨2, by omega, by go_num⟩
                case measure => simp [intOf]
              · go_wp2_with fail
                go_round
                case rel => exact ⟨3, by omega, by go_num⟩
                case measure => simp [intOf]
            · obtain rfl : j = 3 := by omega
              go_upto_region 18 with fail
              go_cut [] (fun wy => Blk wy w6.heap.size 3 (ints (V.set p0 (rd L i))) ∧ Keep (fun k => k = w6.heap.size) w7 wy ∧ Blk wy b 3 [i64 p0, i64 p1, i64 p2])
              case first =>
                go_region
                go_wp2_with fail
                go_meet
                exact ⟨(HV2.out.drew.set p0 (i64 (rd L i))).cast (ints_set _ _ _), HK8.out.drew.set _ _ (fun _ => rfl), HT.out.drew.other _ (Ne.symm hbw)⟩
              case rest =>
                obtain ⟨hv3, hk3, hb3⟩ := hcut
                clear qt x2 v2 f2 hv2l qc2 HV2 HK8 HT HC2
                have HV2 := hid hv3
                have HK8 := hid hk3
                have HT := hid hb3
                have qt := hb3.k3
                have hc3 := hk3.blk HC7.out hcw
                have qc2 := hc3.k8
                have x2 := (cell_old hk3 (Nat.lt_of_lt_of_le hlb HK7.out.size) hlw (lo + i)).trans (HLC.out _ HK7.out i hlt)
                have v2 := hv3.cell p1
                rw [ints_get _ _ (by simp only [List.length_set]; rw [HWL.out]; exact b1)] at v2
                have f2 := hv3.frozen p1
                have hv2l := hv3.lt
                clear hv3 hk3 hb3 hc3
                go_upto_region 19 with fail
                go_cut [] (fun wy => Blk wy w6.heap.size 3 (ints ((V.set p0 (rd L i)).set p1 (rd L i))) ∧ Keep (fun k => k = w6.heap.size) w7 wy ∧ Blk wy b 3 [i64 p0, i64 p1, i64 p2])
                case first =>
                  go_region
                  go_wp2_with fail
                  go_meet
                  exact ⟨(HV2.out.drew.set p1 (i64 (rd L i))).cast (ints_set _ _ _), HK8.out.drew.set _ _ (fun _ => rfl), HT.out.drew.other _ (Ne.symm hbw)⟩
                case rest =>
                  obtain ⟨hv3, hk3, hb3⟩ := hcut
                  clear qt x2 v2 f2 hv2l qc2 HV2 HK8 HT
                  have HV2 := hid hv3
                  have HK8 := hid hk3
                  have HT := hid hb3
                  have qt := hb3.k3
                  have hc3 := hk3.blk HC7.out hcw
                  have qc2 := hc3.k8
                  have x2 := (cell_old hk3 (Nat.lt_of_lt_of_le hlb HK7.out.size) hlw (lo + i)).trans (HLC.out _ HK7.out i hlt)
                  have v2 := hv3.cell p2
                  rw [ints_get _ _ (by simp only [List.length_set]; rw [HWL.out]; exact b2)] at v2
                  have f2 := hv3.frozen p2
                  have hv2l := hv3.lt
                  clear hv3 hk3 hb3 hc3
                  go_wp2_with fail
                  go_roundw
                  case rel => exact ⟨i + 1, by omega, by go_num, by rw [HLAY.out]; exact (HV2.out.set p2 (i64 1)).cast (ints_set _ _ _), HK8.out.set _ _ (fun _ => rfl)⟩
                  case measure => simp [intOf]; omega
      · obtain rfl : i = P.length := by omega
        have HI8 := hid (HKR.out.ints HI7.out hgw)
        have hF : layN s L P.length (List.replicate W0.length 0) = W0 := by rw [HFL.out, ← hW]; rfl
        have hvb := HV.out
        rw [hF] at hvb
        have hva : IntsAt wr (some ⟨w6.heap.size, 0, none⟩) W0 := Or.inr ⟨_, 0, rfl, fun j hj => by rw [Nat.zero_add, hvb.cell j, ints_get _ _ hj]⟩
        have HVA := hid hva
        clear hvb hva hF
        go_wp2_with fail
        refine (same_ints _ _ W0 _ _ _ HI8.out.at_ HVA.out (by omega)).mono ?_
        rintro e w9 ⟨rfl, hk⟩
        have HK9 := hid hk
        clear hk
        go_wp2_with fail
        go_ret
        refine ⟨rfl, (HK7.out.trans (T := fun k => k = w6.heap.size) (HKR.out.trans (HK9.out.to (S := fun k => k = w6.heap.size)) (fun _ _ h => h)) ?_).mono (fun _ h => h)⟩
        rintro k hk rfl
        have := HK6.out.size
        omega
end Go.Proofs.Ytjpkepceenghcaa
