/- SnapEnd: behind its end a machine does nothing more, and answers as it did; ahead of its end its answer is a zero one. -/
import Derived.Test.YtlkniogapdhcpaaSnapCC
import Derived.Test.YtlkniogapdhcpaaLawSixE
import Derived.Test.YtlkniogapdhcpaaRowSix
import Derived.Test.YtlkniogapdhcpaaLog
import Derived.Test.YtlkniogapdhcpaaGhostB
import Derived.Test.YtlkniogapdhcpaaRegionF
namespace Go.Proofs.Ytlkniogapdhcpaa
open Go.RowKit
set_option linter.unusedVariables false
set_option linter.unusedSimpArgs false
set_option maxRecDepth 100000
def end7 (n : Nat) : Nat → Value → World → Prop
  | 9 => fun u w => ∃ A c, u = .slice A n c
  | _ => fun _ _ => True
theorem end7_stable {n : Nat} : Stable (end7 n) := by
  intro i u w w' h hk
  unfold end7 at *
  split at h <;> first | exact h | trivial
set_option maxHeartbeats 4000000 in
theorem snapEnd_walk {w : World} {v0 : Value} (hc : CounterIn w v0) (retry : Int) (hretry : (Lit.int .u8 retry).wf = true) (most : Int) (hy : (Lit.int .u8 most).wf = true) (glance : Bool) : Calls Try.prog 4 #[v0, .int .u8 retry, .int .u8 most, .bool glance] w (Ret (.bool true) w) := by
  have hretry := bounds_u8 hretry
  have hy := bounds_u8 hy
  obtain ⟨ba, sr, ga, gl, li, VA, V, vc, UA, U, uc, rfl, h0, h1, h2, h3, h4, hV, hv1, hvb, hU, hu1, hub⟩ := hc
  obtain ⟨b, hb⟩ : ∃ b : Nat, (b : Int) = ba % 8 := ⟨(ba % 8).toNat, by omega⟩
  have hz1 := sz4_bd sr
  have hz2 := sz4_bd li
  obtain ⟨s, hs⟩ : ∃ s : Nat, (s : Int) = sz4 sr := ⟨(sz4 sr).toNat, by omega⟩
  obtain ⟨g, hg⟩ : ∃ g : Nat, (g : Int) = ga % 40 + 1 := ⟨(ga % 40 + 1).toNat, by omega⟩
  obtain ⟨l, hl⟩ : ∃ l : Nat, (l : Int) = min (sz4 li) (sz4 sr) := ⟨(min (sz4 li) (sz4 sr)).toNat, by omega⟩
  have HP2 := hid (show p2 (s : Int) ∧ p2 (l : Int) ∧ (l : Int) ≤ s from ⟨by rw [hs]; exact sz4_p2 _, by rw [hl]; exact (p2_min (sz4_p2 _) (sz4_p2 _)).1, by rw [hl, hs]; exact (p2_min (sz4_p2 _) (sz4_p2 _)).2⟩)
  have hbb : b ≤ 7 := by omega
  have hss : 1 ≤ s ∧ s ≤ 8 := by omega
  have hgg : 1 ≤ g ∧ g ≤ 40 := by omega
  have hll : 1 ≤ l ∧ l ≤ 8 := by omega
  have HSZ := hid (fun w' => law6_Size ba sr ga gl li VA V.length vc UA U.length uc w' h0 h1 h2 h4)
  rw [← hl, ← hb, ← hs, ← hg] at HSZ
  have HWO := hid (fun (w' : World) (hk : Keep0 w w') hv hu => law6_Words ba sr ga gl li VA V vc UA U uc w' b s g l h0 h1 h2 h4 h3 (hV.keep hk) (hU.keep hk) hv hu hvb hub hb hs hg hl)
  skip
  have HK0 : Hid (Keep0 w (w.alloc (.cells #[.int .u8 ba, .int .u8 sr, .int .u16 ga, .int .i32 gl, .int .u8 li, .slice VA V.length vc, .slice UA U.length uc] 26))) := hid ((Keep.refl _ _).alloc _)
  clear hV hU hv1 hu1 hvb hub h0 h1 h2 h4 hb hs hg hl hz1 hz2
  have hr0 : 0 ≤ retry % 8 := Int.emod_nonneg _ (by omega)
  have hr1 : retry % 8 < 8 := Int.emod_lt_of_pos _ (by omega)
  obtain ⟨r, hrr⟩ : ∃ r : Nat, (r : Int) = retry % 8 + 1 := ⟨(retry % 8 + 1).toNat, by omega⟩
  have hr8 : 1 ≤ r ∧ r ≤ 8 := by omega
  have yr1 : IntKind.i64.wrap (retry % 8 + 1) = (r : Int) := by rw [hrr]; exact IntWalk.i64_in _ (by omega)
  have yr2 : retry.tmod 8 = retry % 8 := Int.tmod_eq_emod_of_nonneg hretry.1
  clear hrr hr0 hr1
  have hq0 : 0 ≤ most % 20 := Int.emod_nonneg _ (by omega)
  have hq1 : most % 20 < 20 := Int.emod_lt_of_pos _ (by omega)
  obtain ⟨mo, hmo⟩ := Int.eq_ofNat_of_zero_le hq0
  have HMO := hid hmo
  have hmo9 : mo < 20 := by omega
  clear hmo hq0 hq1
  go_enter Try.func4, Try.ntmps4
  go_wp2_with fail
  have HB : Hid (Blk (w.alloc (.cells #[.int .u8 ba, .int .u8 sr, .int .u16 ga, .int .i32 gl, .int .u8 li, .slice VA V.length vc, .slice UA U.length uc] 26)) w.heap.size 26 [.int .u8 ba, .int .u8 sr, .int .u16 ga, .int .i32 gl, .int .u8 li, .slice VA V.length vc, .slice UA U.length uc]) := hid (Blk.made rfl rfl)
  have qHB := HB.out.k7
  refine (law7_head _).mono ?_
  rintro e w1 ⟨rfl, hk⟩
  have HK1 : Hid (Keep0 w w1) := hid (Keep0.step (by repeat (with_reducible first | exact Keep.refl _ _ | exact HK0.out | apply Keep.alloc | apply Keep.drewN | apply Keep.drew)) hk)
  have THB := hk.blk (show Blk _ _ _ _ from by repeat (with_reducible first | exact HB.out | apply Blk.alloc | apply Blk.drewN | apply Blk.drew)) (fun h => h)
  clear hk qHB HB HK0
  have HB := hid THB
  clear THB
  have qHB := HB.out.k7
  by_cases hgd0 : 20 < V.length
  · go_wp2_with fail
    go_ret
    exact ⟨rfl, HK1.out⟩
  by_cases hgd1 : 20 < U.length
  · go_wp2_with fail
    go_ret
    exact ⟨rfl, HK1.out⟩
  go_wp2_with fail
  refine (HSZ.out _).mono ?_
  rintro e w2 ⟨rfl, hk⟩
  have HK2 : Hid (Keep0 w w2) := hid (Keep0.step (by repeat (with_reducible first | exact Keep.refl _ _ | exact HK1.out | apply Keep.alloc | apply Keep.drewN | apply Keep.drew)) hk)
  have THB := hk.blk (show Blk _ _ _ _ from by repeat (with_reducible first | exact HB.out | apply Blk.alloc | apply Blk.drewN | apply Blk.drew)) (fun h => h)
  clear hk qHB HB HK1
  have HB := hid THB
  clear THB
  have qHB := HB.out.k7
  clear HSZ
  go_wp2_with fail
  refine (HWO.out _ (by repeat (with_reducible first | exact Keep.refl _ _ | exact HK2.out | apply Keep.alloc | apply Keep.drewN | apply Keep.drew)) (by omega) (by omega)).mono ?_
  rintro e w3 ⟨wg, rfl, hwg, hk, hwge⟩
  generalize hN : b + 4 + s + 3 = N at *
  have HWF := hid (wf6 b s g gl l V U hgg)
  generalize words6 b g (zero6 b s gl l) V U s = WW at *
  have HN := hid hN
  have hln : WW.length = N := HWF.out.ln.trans hN
  have hN1 : b + 4 + s ≤ N := by omega
  have hN2 : N ≤ 22 := by omega
  clear hN
  have HWG := hid (Blk.ints hwg)
  have hwz : w.heap.size ≤ wg := Nat.le_trans HK2.out.size (by simpa using hwge)
  have HK3 : Hid (Keep0 w w3) := hid (Keep0.step (by repeat (with_reducible first | exact Keep.refl _ _ | exact HK2.out | apply Keep.alloc | apply Keep.drewN | apply Keep.drew)) hk)
  have THB := hk.blk (show Blk _ _ _ _ from by repeat (with_reducible first | exact HB.out | apply Blk.alloc | apply Blk.drewN | apply Blk.drew)) (fun h => h)
  clear hk qHB HB HK2
  have HB := hid THB
  clear THB
  have qHB := HB.out.k7
  clear hwg HWO hwge
  clear qHB HB
  go_wp2_with fail
  refine (law7_laid w.heap.size _ wg _ N WW HWG.out hln.symm (by omega) (by have := HK3.out.size; omega)).mono ?_
  rintro e w4 ⟨m, a, lv, rfl, hm, hk, hzm, hza⟩
  have hzm' : w.heap.size ≤ m := Nat.le_trans HK3.out.size hzm
  have hza' : w.heap.size ≤ a := Nat.le_trans HK3.out.size hza
  have hwgm : wg ≠ a := by have := HWG.out.lt; omega
  have HK4 : Hid (Keep0 w w4) := hid (Keep0.step (by repeat (with_reducible first | exact Keep.refl _ _ | exact HK3.out | apply Keep.alloc | apply Keep.drewN | apply Keep.drew)) hk)
  have THWG := hk.ints (show Ints _ _ _ from by repeat (with_reducible first | exact HWG.out | apply Ints.alloc | apply Ints.drewN | apply Ints.drew)) (fun h => h)
  clear hk HWG HK3
  have HWG := hid THWG
  clear THWG
  have HM := hid hm
  clear hm hzm hza
  clear HWG
  go_wp2_with fail
  have hks := HK4.out.size
  refine (snap_Count b s ((r : Int)) _ (by omega) (by omega)).mono ?_
  rintro e w5 ⟨x, R, rfl, hk, hx, hr⟩
  have HRM := hid (new_mf HM.out hr)
  have hrz : ∀ k, R k → w.heap.size ≤ k := fun k h => Nat.le_trans hks (hr k h)
  have HK5 : Hid (Keep0 w w5) := hid (Keep0.step (by repeat (with_reducible first | exact Keep.refl _ _ | exact HK4.out | apply Keep.alloc | apply Keep.drewN | apply Keep.drew)) hk)
  have THM := MemAt.same (by repeat (with_reducible first | exact HM.out | apply MemAt.alloc | apply MemAt.drew)) hk
  clear hk HM HK4
  have HM := hid THM
  clear THM
  have HX := hid (hx (WW) ([]))
  clear hks hx hr
  cases glance with
  | false =>
    go_wp2_with fail
    rw [HMO.out]
    have hp := play_count (b := b) (s := s) (B := w.heap.size) (w := w5) (m := m) (a := a) (x := x) (lv := lv) (R := R) ⟨WW, [], (r : Int), [], 0, false, false⟩ [] none 0 0 0 (mo) (by omega) HM.out HX.out HRM.out (NInv.start (by show b + 4 + s ≤ WW.length; omega) (by omega) hss (by omega)) (by simp) (by omega) (by simp) (fun h => by simp at h) (fun i h => by simp at h)
    rw [show (⟨WW, [], (r : Int), [], 0, false, false⟩ : SN).W.length = WW.length from rfl] at hp
    have hcp := nPlay_count b s WW.length [] (mo) 0 ⟨WW, [], (r : Int), [], 0, false, false⟩ rfl
    generalize playF (nStp b s) nPk WW.length [] (mo) 0 ⟨WW, [], (r : Int), [], 0, false, false⟩ = pf at *
    obtain ⟨pt, pn, pb⟩ := pf
    simp only at hp
    refine hp.mono ?_
    rintro e w6 ⟨rfl, ⟨kk, lv', R', hm, ho, hx, hlen, hlg, hin, _, hr1, hr2⟩, hk⟩
    have hrz' : ∀ k, R' k → w.heap.size ≤ k := fun k h => (hr1 k h).elim (hrz k) (fun h2 => Nat.le_trans HK5.out.size h2)
    have HK6 : Hid (Keep0 w w6) := hid (nplay_far HM.out hrz hk HK5.out rfl)
    clear hp HM HX HK5 hk hrz HRM ho hr1 
    obtain ⟨lv, hlv⟩ : ∃ v, v = lv' := ⟨_, rfl⟩
    subst hlv
    have HM := hid hm
    have HX := hid hx
    have HI := hid hin
    have HRM := hid hr2
    have hrz := hrz'
    have HLEN := hid hlen
    clear hm hx hin hr2 hrz' hlen hlg
    obtain ⟨R, hRR⟩ : ∃ v, v = R' := ⟨_, rfl⟩
    subst hRR
    have hlg := hcp.log
    have hle := hcp.le
    simp only [List.length_nil, Nat.zero_add, Nat.add_zero] at hlg hle
    cases pb
    · obtain ⟨hf, hn⟩ := hcp.not rfl
      simp only [Nat.zero_add] at hf hn
      obtain rfl : pn = mo := hn
      have hz := HI.out.z hf
      have hans := count_Ans _ HX.out
      rw [hz.1, hz.2] at hans
      clear hz hf hcp hle hlg
      go_wp2_with fail
      refine hans.mono ?_
      rintro e wA ⟨rfl, hk⟩
      have HKA : Hid (Keep0 w wA) := hid (Keep0.step HK6.out hk)
      clear hk hans
      go_wp2_with fail
      rw [HMO.out]
      go_wp2_with fail
      go_ret
      exact ⟨by show Ending.returned (.bool (((pn : Nat) : Int) == ((pn : Nat) : Int))) = _; rw [beq_self_eq_true], HKA.out.alloc _⟩
    · have hf := hcp.told rfl
      simp only at hf
      obtain ⟨an, han⟩ : ∃ an : Int, an = pt.n := ⟨_, rfl⟩
      obtain ⟨ax, hax⟩ : ∃ ax : Bool, ax = pt.ex := ⟨_, rfl⟩
      have hans := count_Ans _ HX.out
      rw [← han, ← hax] at hans
      have HAN := hid han.symm
      have HAX := hid hax.symm
      have HF := hid hf
      have HLL := hid hlg
      have hpn : pn ≤ 20 := by omega
      clear hf hcp han hax hlg hle
      go_wp2_with fail
      refine hans.mono ?_
      rintro e wA ⟨rfl, hk⟩
      have HKA : Hid (Keep0 w wA) := hid (Keep0.step HK6.out hk)
      have HX1 := hid (HX.out.keep hk (fun _ _ h => h))
      have HM1 := hid (HM.out.same hk)
      clear hk hans HX HM HK6
      have HA9 : Hid (Blk (wA.alloc (.cells #[i64 0, i64 an, .bool ax, i64 0] 45)) wA.heap.size 45 [i64 0, i64 an, .bool ax, i64 0]) := hid (Blk.made rfl rfl)
      have HX9 := hid (HX1.out.alloc (.cells #[i64 0, i64 an, .bool ax, i64 0] 45))
      have HM9 := hid (HM1.out.same ((Keep.refl _ wA).alloc (.cells #[i64 0, i64 an, .bool ax, i64 0] 45)))
      have HK9 := hid (HKA.out.alloc (.cells #[i64 0, i64 an, .bool ax, i64 0] 45))
      go_wp2_with fail
      clear HX1 HM1 HKA
      generalize wA.alloc (.cells #[i64 0, i64 an, .bool ax, i64 0] 45) = w9 at *
      go_loopw [19] (fun v wr => ∃ i : Nat, i ≤ 5 ∧ v = .int .i64 i ∧ Keep0 w9 wr) (fun v _ => 5 - (intOf v).toNat)
      case atStart => exact ⟨0, by omega, rfl, Keep.refl _ _⟩
      case round =>
        obtain ⟨i, hi, rfl, hk⟩ := hrel
        have HKK := hid hk
        have HXR := hid (HX9.out.keep hk (fun _ _ h => h))
        have HAR := hid (hk.blk HA9.out (fun h => h))
        have HMR := hid (HM9.out.same hk)
        have HKR : Hid (Keep0 w wr) := hid (Keep0.step HK9.out hk)
        clear hk
        by_cases hlt : i < 5
        · go_wp2_with fail
          refine (sn_over (B := 0) (m := m) HXR.out HF.out).mono ?_
          rintro e w10 ⟨rfl, rfl⟩
          go_wp2_with fail
          go_roundw
          case rel => exact ⟨i + 1, by omega, by go_num, HKK.out⟩
          case measure => simp [intOf]; omega
        · obtain rfl : i = 5 := by omega
          go_wp2_with fail
          apply wp_region_free (WI := fun S gh wx => Keep0 wr wx ∧ GWI (end7 pn) S gh wx) (by kernel_rfl) (by kernel_rfl)
          case hob =>
            apply ObligF.fixed
            case h =>
              intro S gh w1 hwi hSi hd hcl
              apply StepOk.intro
              intro K hK
              have qa := (hwi.1.blk HAR.out (fun h => h)).k4
              go_simp
              apply hK
              · rfl
              · conv => (lhs; whnf)
              · exact ⟨hwi.1, GWI.fixed hwi.2 trivial⟩
            simp only [put_lit, put_none]
            try dsimp only [List.set_cons_succ, List.set_cons_zero]
            apply ObligF.fixed
            case h =>
              intro S gh w1 hwi hSi hd hcl
              apply StepOk.intro
              intro K hK
              have qa := (hwi.1.blk HAR.out (fun h => h)).k4
              go_simp
              apply hK
              · rfl
              · conv => (lhs; whnf)
              · exact ⟨hwi.1, GWI.fixed hwi.2 trivial⟩
            simp only [put_lit, put_none]
            try dsimp only [List.set_cons_succ, List.set_cons_zero]
            apply ObligF.fixed
            case h =>
              intro S gh w1 hwi hSi hd hcl
              apply StepOk.intro
              intro K hK
              have qa := (hwi.1.blk HAR.out (fun h => h)).k4
              go_simp
              apply hK
              · rfl
              · conv => (lhs; whnf)
              · exact ⟨hwi.1, GWI.fixed hwi.2 trivial⟩
            simp only [put_lit, put_none]
            try dsimp only [List.set_cons_succ, List.set_cons_zero]
            apply ObligF.fixed
            case h =>
              intro S gh w1 hwi hSi hd hcl
              apply StepOk.intro
              intro K hK
              have qa := (hwi.1.blk HAR.out (fun h => h)).k4
              go_simp
              refine (show Calls Try.prog 16 #[ptr x] w1 (Ret (.agg #[i64 0, i64 an, .bool ax, i64 0]) w1) from by have h := count_Ans _ (HXR.out.keep hwi.1 (fun _ _ h => h)); rw [HAN.out, HAX.out] at h; exact h).mono ?_
              rintro e w2 ⟨rfl, hk⟩
              apply hK
              · rfl
              · conv => (lhs; whnf)
              · exact ⟨Keep0.step hwi.1 hk, GWI.fixed (hwi.2.keep end7_stable hk) trivial⟩
            simp only [put_lit, put_none]
            try dsimp only [List.set_cons_succ, List.set_cons_zero]
            apply ObligF.fixed
            case h =>
              intro S gh w1 hwi hSi hd hcl
              apply StepOk.intro
              intro K hK
              have qa := (hwi.1.blk HAR.out (fun h => h)).k4
              go_simp
              apply hK
              · rfl
              · conv => (lhs; whnf)
              · exact ⟨hwi.1, GWI.fixed hwi.2 trivial⟩
            simp only [put_lit, put_none]
            try dsimp only [List.set_cons_succ, List.set_cons_zero]
            apply ObligF.fixed
            case h =>
              intro S gh w1 hwi hSi hd hcl
              apply StepOk.intro
              intro K hK
              have qa := (hwi.1.blk HAR.out (fun h => h)).k4
              go_simp
              apply hK
              · rfl
              · conv => (lhs; whnf)
              · exact ⟨hwi.1, GWI.fixed hwi.2 trivial⟩
            simp only [put_lit, put_none]
            try dsimp only [List.set_cons_succ, List.set_cons_zero]
            apply ObligF.fixed
            case h =>
              intro S gh w1 hwi hSi hd hcl
              apply StepOk.intro
              intro K hK
              have qa := (hwi.1.blk HAR.out (fun h => h)).k4
              go_simp
              apply hK
              · rfl
              · conv => (lhs; whnf)
              · exact ⟨hwi.1, GWI.fixed hwi.2 trivial⟩
            simp only [put_lit, put_none]
            try dsimp only [List.set_cons_succ, List.set_cons_zero]
            apply ObligF.fixed
            case h =>
              intro S gh w1 hwi hSi hd hcl
              apply StepOk.intro
              intro K hK
              have qa := (hwi.1.blk HAR.out (fun h => h)).k4
              go_simp
              apply hK
              · rfl
              · conv => (lhs; whnf)
              · exact ⟨hwi.1, GWI.fixed hwi.2 trivial⟩
            simp only [put_lit, put_none]
            try dsimp only [List.set_cons_succ, List.set_cons_zero]
            apply ObligF.fixed
            case h =>
              intro S gh w1 hwi hSi hd hcl
              apply StepOk.intro
              intro K hK
              have qa := (hwi.1.blk HAR.out (fun h => h)).k4
              go_simp
              apply hK
              · rfl
              · conv => (lhs; whnf)
              · exact ⟨hwi.1, GWI.fixed hwi.2 trivial⟩
            simp only [put_lit, put_none]
            try dsimp only [List.set_cons_succ, List.set_cons_zero]
            apply ObligF.free
            case h =>
              intro S gh w1 hwi hSi hd hcl
              apply StepG.intro
              intro K hK
              have qa := (hwi.1.blk HAR.out (fun h => h)).k4
              go_simp
              refine (mem_Log (HMR.out.same hwi.1) (by rw [HLL.out]; omega)).mono ?_
              rintro e w2 ⟨A2, c2, rfl, _, hk⟩
              rw [HLL.out]
              apply hK
              · rfl
              · exact ⟨Keep0.step hwi.1 hk, GWI.free (hwi.2.keep end7_stable hk) ⟨_, c2, rfl⟩⟩
            simp only [put_lit, put_none]
            try dsimp only [List.set_cons_succ, List.set_cons_zero]
            apply ObligF.fixed
            case h =>
              intro S gh w1 hwi hSi hd hcl
              apply StepOk.intro
              intro K hK
              have qa := (hwi.1.blk HAR.out (fun h => h)).k4
              obtain ⟨A1, c1, e1⟩ := hwi.2 9 (hd ⟨9, .data⟩ (by simp) rfl)
              rw [e1]
              go_simp
              apply hK
              · rfl
              · conv => (lhs; whnf)
              · exact ⟨hwi.1, GWI.fixed hwi.2 trivial⟩
            simp only [put_lit, put_none]
            try dsimp only [List.set_cons_succ, List.set_cons_zero]
            apply ObligF.fixed
            case h =>
              intro S gh w1 hwi hSi hd hcl
              apply StepOk.intro
              intro K hK
              have qa := (hwi.1.blk HAR.out (fun h => h)).k4
              go_simp
              apply hK
              · rfl
              · conv => (lhs; whnf)
              · exact ⟨hwi.1, GWI.fixed hwi.2 trivial⟩
            simp only [put_lit, put_none]
            try dsimp only [List.set_cons_succ, List.set_cons_zero]
            apply ObligF.fixed
            case h =>
              intro S gh w1 hwi hSi hd hcl
              apply StepOk.intro
              intro K hK
              have qa := (hwi.1.blk HAR.out (fun h => h)).k4
              go_simp
              apply hK
              · rfl
              · conv => (lhs; whnf)
              · exact ⟨hwi.1, GWI.fixed hwi.2 trivial⟩
            simp only [put_lit, put_none]
            try dsimp only [List.set_cons_succ, List.set_cons_zero]
            apply ObligF.fixed
            case h =>
              intro S gh w1 hwi hSi hd hcl
              apply StepOk.intro
              intro K hK
              have qa := (hwi.1.blk HAR.out (fun h => h)).k4
              go_simp
              apply hK
              · rfl
              · conv => (lhs; whnf)
              · exact ⟨hwi.1, GWI.fixed hwi.2 trivial⟩
            simp only [put_lit, put_none]
            try dsimp only [List.set_cons_succ, List.set_cons_zero]
            apply ObligF.fixed
            case h =>
              intro S gh w1 hwi hSi hd hcl
              apply StepOk.intro
              intro K hK
              have qa := (hwi.1.blk HAR.out (fun h => h)).k4
              go_simp
              apply hK
              · rfl
              · conv => (lhs; whnf)
              · exact ⟨hwi.1, GWI.fixed hwi.2 trivial⟩
            simp only [put_lit, put_none]
            try dsimp only [List.set_cons_succ, List.set_cons_zero]
            exact ObligF.nil
          case h0 =>
            exact ⟨(Keep.refl _ _).drew, GWI.start _ _ _⟩
          case hend =>
            intro S gh wx hwi hall
            have HKX := hid hwi.1
            clear hwi hall
            go_wp2_with fail
            go_ret
            exact ⟨rfl, HKR.out.trans HKX.out (fun _ _ h => h)⟩
  | true =>
    clear HX
    go_wp2_with fail
    have hks := HK5.out.size
    refine (snap_Peek b _).mono ?_
    rintro e w6 ⟨xq, Rq, rfl, hk, hx, hr⟩
    have HRMq := hid (new_mf HM.out hr)
    have hrzq : ∀ k, Rq k → w.heap.size ≤ k := fun k h => Nat.le_trans hks (hr k h)
    have HK6 : Hid (Keep0 w w6) := hid (Keep0.step (by repeat (with_reducible first | exact Keep.refl _ _ | exact HK5.out | apply Keep.alloc | apply Keep.drewN | apply Keep.drew)) hk)
    have THM := MemAt.same (by repeat (with_reducible first | exact HM.out | apply MemAt.alloc | apply MemAt.drew)) hk
    clear hk HM HK5
    have HM := hid THM
    clear THM
    have HXq := hid (hx (WW) ([]))
    clear hks hx hr
    go_wp2_with fail
    rw [HMO.out]
    have hp := play_peek (b := b) (B := w.heap.size) (w := w6) (m := m) (a := a) (x := xq) (lv := lv) (R := Rq) ⟨WW, [], 0, [], 0, false, false⟩ [] none 0 0 0 (mo) (by omega) HM.out HXq.out HRMq.out (⟨by show b < WW.length; omega, fun _ => ⟨rfl, rfl⟩⟩) (by simp) (by omega) (by simp) (fun h => by simp at h) (fun i h => by simp at h)
    rw [show (⟨WW, [], 0, [], 0, false, false⟩ : SN).W.length = WW.length from rfl] at hp
    have hcp := nPlay_peek b WW.length [] (mo) 0 ⟨WW, [], 0, [], 0, false, false⟩ rfl
    generalize playF (gStp b) nPk WW.length [] (mo) 0 ⟨WW, [], 0, [], 0, false, false⟩ = pf at *
    obtain ⟨pt, pn, pb⟩ := pf
    simp only at hp
    refine hp.mono ?_
    rintro e w7 ⟨rfl, ⟨kk, lv', R', hm, ho, hx, hlen, hlg, hin, _, hr1, hr2⟩, hk⟩
    have hrz' : ∀ k, R' k → w.heap.size ≤ k := fun k h => (hr1 k h).elim (hrzq k) (fun h2 => Nat.le_trans HK6.out.size h2)
    have HK7 : Hid (Keep0 w w7) := hid (nplay_far HM.out hrzq hk HK6.out rfl)
    clear hp HM HXq HK6 hk hrzq HRMq ho hr1 
    obtain ⟨lv, hlv⟩ : ∃ v, v = lv' := ⟨_, rfl⟩
    subst hlv
    have HM := hid hm
    have HXq := hid hx
    have HIq := hid hin
    have HRMq := hid hr2
    have hrzq := hrz'
    have HLENq := hid hlen
    clear hm hx hin hr2 hrz' hlen hlg
    obtain ⟨Rq, hRR⟩ : ∃ v, v = R' := ⟨_, rfl⟩
    subst hRR
    have hlg := hcp.log
    have hle := hcp.le
    simp only [List.length_nil, Nat.zero_add, Nat.add_zero] at hlg hle
    cases pb
    · obtain ⟨hf, hn⟩ := hcp.not rfl
      simp only [Nat.zero_add] at hf hn
      obtain rfl : pn = mo := hn
      have hz := HIq.out.2 hf
      have hans := peek_Ans _ HXq.out
      rw [hz.1, hz.2] at hans
      clear hz hf hcp hle hlg
      go_wp2_with fail
      refine hans.mono ?_
      rintro e wA ⟨rfl, hk⟩
      have HKA : Hid (Keep0 w wA) := hid (Keep0.step HK7.out hk)
      clear hk hans
      go_wp2_with fail
      rw [HMO.out]
      go_wp2_with fail
      go_ret
      exact ⟨by show Ending.returned (.bool (((pn : Nat) : Int) == ((pn : Nat) : Int))) = _; rw [beq_self_eq_true], HKA.out.alloc _⟩
    · have hf := hcp.told rfl
      simp only at hf
      obtain ⟨an, han⟩ : ∃ an : Int, an = pt.n := ⟨_, rfl⟩
      obtain ⟨ax, hax⟩ : ∃ ax : Bool, ax = pt.ex := ⟨_, rfl⟩
      have hans := peek_Ans _ HXq.out
      rw [← han, ← hax] at hans
      have HAN := hid han.symm
      have HAX := hid hax.symm
      have HF := hid hf
      have HLL := hid hlg
      have hpn : pn ≤ 20 := by omega
      clear hf hcp han hax hlg hle
      go_wp2_with fail
      refine hans.mono ?_
      rintro e wA ⟨rfl, hk⟩
      have HKA : Hid (Keep0 w wA) := hid (Keep0.step HK7.out hk)
      have HX1 := hid (HXq.out.keep hk (fun _ _ h => h))
      have HM1 := hid (HM.out.same hk)
      clear hk hans HXq HM HK7
      have HA9 : Hid (Blk (wA.alloc (.cells #[i64 0, i64 an, .bool ax, i64 0] 45)) wA.heap.size 45 [i64 0, i64 an, .bool ax, i64 0]) := hid (Blk.made rfl rfl)
      have HX9 := hid (HX1.out.alloc (.cells #[i64 0, i64 an, .bool ax, i64 0] 45))
      have HM9 := hid (HM1.out.same ((Keep.refl _ wA).alloc (.cells #[i64 0, i64 an, .bool ax, i64 0] 45)))
      have HK9 := hid (HKA.out.alloc (.cells #[i64 0, i64 an, .bool ax, i64 0] 45))
      go_wp2_with fail
      clear HX1 HM1 HKA
      generalize wA.alloc (.cells #[i64 0, i64 an, .bool ax, i64 0] 45) = w9 at *
      go_loopw [19] (fun v wr => ∃ i : Nat, i ≤ 5 ∧ v = .int .i64 i ∧ Keep0 w9 wr) (fun v _ => 5 - (intOf v).toNat)
      case atStart => exact ⟨0, by omega, rfl, Keep.refl _ _⟩
      case round =>
        obtain ⟨i, hi, rfl, hk⟩ := hrel
        have HKK := hid hk
        have HXR := hid (HX9.out.keep hk (fun _ _ h => h))
        have HAR := hid (hk.blk HA9.out (fun h => h))
        have HMR := hid (HM9.out.same hk)
        have HKR : Hid (Keep0 w wr) := hid (Keep0.step HK9.out hk)
        clear hk
        by_cases hlt : i < 5
        · go_wp2_with fail
          refine (pk_over (B := 0) (m := m) HXR.out HF.out).mono ?_
          rintro e w10 ⟨rfl, rfl⟩
          go_wp2_with fail
          go_roundw
          case rel => exact ⟨i + 1, by omega, by go_num, HKK.out⟩
          case measure => simp [intOf]; omega
        · obtain rfl : i = 5 := by omega
          go_wp2_with fail
          apply wp_region_free (WI := fun S gh wx => Keep0 wr wx ∧ GWI (end7 pn) S gh wx) (by kernel_rfl) (by kernel_rfl)
          case hob =>
            apply ObligF.fixed
            case h =>
              intro S gh w1 hwi hSi hd hcl
              apply StepOk.intro
              intro K hK
              have qa := (hwi.1.blk HAR.out (fun h => h)).k4
              go_simp
              apply hK
              · rfl
              · conv => (lhs; whnf)
              · exact ⟨hwi.1, GWI.fixed hwi.2 trivial⟩
            simp only [put_lit, put_none]
            try dsimp only [List.set_cons_succ, List.set_cons_zero]
            apply ObligF.fixed
            case h =>
              intro S gh w1 hwi hSi hd hcl
              apply StepOk.intro
              intro K hK
              have qa := (hwi.1.blk HAR.out (fun h => h)).k4
              go_simp
              apply hK
              · rfl
              · conv => (lhs; whnf)
              · exact ⟨hwi.1, GWI.fixed hwi.2 trivial⟩
            simp only [put_lit, put_none]
            try dsimp only [List.set_cons_succ, List.set_cons_zero]
            apply ObligF.fixed
            case h =>
              intro S gh w1 hwi hSi hd hcl
              apply StepOk.intro
              intro K hK
              have qa := (hwi.1.blk HAR.out (fun h => h)).k4
              go_simp
              apply hK
              · rfl
              · conv => (lhs; whnf)
              · exact ⟨hwi.1, GWI.fixed hwi.2 trivial⟩
            simp only [put_lit, put_none]
            try dsimp only [List.set_cons_succ, List.set_cons_zero]
            apply ObligF.fixed
            case h =>
              intro S gh w1 hwi hSi hd hcl
              apply StepOk.intro
              intro K hK
              have qa := (hwi.1.blk HAR.out (fun h => h)).k4
              go_simp
              refine (show Calls Try.prog 16 #[ptr xq] w1 (Ret (.agg #[i64 0, i64 an, .bool ax, i64 0]) w1) from by have h := peek_Ans _ (HXR.out.keep hwi.1 (fun _ _ h => h)); rw [HAN.out, HAX.out] at h; exact h).mono ?_
              rintro e w2 ⟨rfl, hk⟩
              apply hK
              · rfl
              · conv => (lhs; whnf)
              · exact ⟨Keep0.step hwi.1 hk, GWI.fixed (hwi.2.keep end7_stable hk) trivial⟩
            simp only [put_lit, put_none]
            try dsimp only [List.set_cons_succ, List.set_cons_zero]
            apply ObligF.fixed
            case h =>
              intro S gh w1 hwi hSi hd hcl
              apply StepOk.intro
              intro K hK
              have qa := (hwi.1.blk HAR.out (fun h => h)).k4
              go_simp
              apply hK
              · rfl
              · conv => (lhs; whnf)
              · exact ⟨hwi.1, GWI.fixed hwi.2 trivial⟩
            simp only [put_lit, put_none]
            try dsimp only [List.set_cons_succ, List.set_cons_zero]
            apply ObligF.fixed
            case h =>
              intro S gh w1 hwi hSi hd hcl
              apply StepOk.intro
              intro K hK
              have qa := (hwi.1.blk HAR.out (fun h => h)).k4
              go_simp
              apply hK
              · rfl
              · conv => (lhs; whnf)
              · exact ⟨hwi.1, GWI.fixed hwi.2 trivial⟩
            simp only [put_lit, put_none]
            try dsimp only [List.set_cons_succ, List.set_cons_zero]
            apply ObligF.fixed
            case h =>
              intro S gh w1 hwi hSi hd hcl
              apply StepOk.intro
              intro K hK
              have qa := (hwi.1.blk HAR.out (fun h => h)).k4
              go_simp
              apply hK
              · rfl
              · conv => (lhs; whnf)
              · exact ⟨hwi.1, GWI.fixed hwi.2 trivial⟩
            simp only [put_lit, put_none]
            try dsimp only [List.set_cons_succ, List.set_cons_zero]
            apply ObligF.fixed
            case h =>
              intro S gh w1 hwi hSi hd hcl
              apply StepOk.intro
              intro K hK
              have qa := (hwi.1.blk HAR.out (fun h => h)).k4
              go_simp
              apply hK
              · rfl
              · conv => (lhs; whnf)
              · exact ⟨hwi.1, GWI.fixed hwi.2 trivial⟩
            simp only [put_lit, put_none]
            try dsimp only [List.set_cons_succ, List.set_cons_zero]
            apply ObligF.fixed
            case h =>
              intro S gh w1 hwi hSi hd hcl
              apply StepOk.intro
              intro K hK
              have qa := (hwi.1.blk HAR.out (fun h => h)).k4
              go_simp
              apply hK
              · rfl
              · conv => (lhs; whnf)
              · exact ⟨hwi.1, GWI.fixed hwi.2 trivial⟩
            simp only [put_lit, put_none]
            try dsimp only [List.set_cons_succ, List.set_cons_zero]
            apply ObligF.free
            case h =>
              intro S gh w1 hwi hSi hd hcl
              apply StepG.intro
              intro K hK
              have qa := (hwi.1.blk HAR.out (fun h => h)).k4
              go_simp
              refine (mem_Log (HMR.out.same hwi.1) (by rw [HLL.out]; omega)).mono ?_
              rintro e w2 ⟨A2, c2, rfl, _, hk⟩
              rw [HLL.out]
              apply hK
              · rfl
              · exact ⟨Keep0.step hwi.1 hk, GWI.free (hwi.2.keep end7_stable hk) ⟨_, c2, rfl⟩⟩
            simp only [put_lit, put_none]
            try dsimp only [List.set_cons_succ, List.set_cons_zero]
            apply ObligF.fixed
            case h =>
              intro S gh w1 hwi hSi hd hcl
              apply StepOk.intro
              intro K hK
              have qa := (hwi.1.blk HAR.out (fun h => h)).k4
              obtain ⟨A1, c1, e1⟩ := hwi.2 9 (hd ⟨9, .data⟩ (by simp) rfl)
              rw [e1]
              go_simp
              apply hK
              · rfl
              · conv => (lhs; whnf)
              · exact ⟨hwi.1, GWI.fixed hwi.2 trivial⟩
            simp only [put_lit, put_none]
            try dsimp only [List.set_cons_succ, List.set_cons_zero]
            apply ObligF.fixed
            case h =>
              intro S gh w1 hwi hSi hd hcl
              apply StepOk.intro
              intro K hK
              have qa := (hwi.1.blk HAR.out (fun h => h)).k4
              go_simp
              apply hK
              · rfl
              · conv => (lhs; whnf)
              · exact ⟨hwi.1, GWI.fixed hwi.2 trivial⟩
            simp only [put_lit, put_none]
            try dsimp only [List.set_cons_succ, List.set_cons_zero]
            apply ObligF.fixed
            case h =>
              intro S gh w1 hwi hSi hd hcl
              apply StepOk.intro
              intro K hK
              have qa := (hwi.1.blk HAR.out (fun h => h)).k4
              go_simp
              apply hK
              · rfl
              · conv => (lhs; whnf)
              · exact ⟨hwi.1, GWI.fixed hwi.2 trivial⟩
            simp only [put_lit, put_none]
            try dsimp only [List.set_cons_succ, List.set_cons_zero]
            apply ObligF.fixed
            case h =>
              intro S gh w1 hwi hSi hd hcl
              apply StepOk.intro
              intro K hK
              have qa := (hwi.1.blk HAR.out (fun h => h)).k4
              go_simp
              apply hK
              · rfl
              · conv => (lhs; whnf)
              · exact ⟨hwi.1, GWI.fixed hwi.2 trivial⟩
            simp only [put_lit, put_none]
            try dsimp only [List.set_cons_succ, List.set_cons_zero]
            apply ObligF.fixed
            case h =>
              intro S gh w1 hwi hSi hd hcl
              apply StepOk.intro
              intro K hK
              have qa := (hwi.1.blk HAR.out (fun h => h)).k4
              go_simp
              apply hK
              · rfl
              · conv => (lhs; whnf)
              · exact ⟨hwi.1, GWI.fixed hwi.2 trivial⟩
            simp only [put_lit, put_none]
            try dsimp only [List.set_cons_succ, List.set_cons_zero]
            exact ObligF.nil
          case h0 =>
            exact ⟨(Keep.refl _ _).drew, GWI.start _ _ _⟩
          case hend =>
            intro S gh wx hwi hall
            have HKX := hid hwi.1
            clear hwi hall
            go_wp2_with fail
            go_ret
            exact ⟨rfl, HKR.out.trans HKX.out (fun _ _ h => h)⟩
end Go.Proofs.Ytlkniogapdhcpaa
