/- SnapTwice: two counts, one behind the other, with nothing between, of a calm counter, and a peek with a gate's gap, tell alike. -/
import Derived.Test.YtlkniogapdhcpaaSnapF
import Derived.Test.YtlkniogapdhcpaaHeadSix
import Derived.Test.YtlkniogapdhcpaaRowSix
namespace Go.Proofs.Ytlkniogapdhcpaa
open Go.RowKit
set_option linter.unusedVariables false
set_option linter.unusedSimpArgs false
set_option maxRecDepth 100000
@[go_sem] theorem field_ans7_1 (x0 x1 x2 x3 : Value) (w : World) : (Instr.field 45 (.agg #[x0, x1, x2, x3]) 1).run Try.prog w = .ok x1 w := by kernel_rfl
@[go_sem] theorem field_ans7_2 (x0 x1 x2 x3 : Value) (w : World) : (Instr.field 45 (.agg #[x0, x1, x2, x3]) 2).run Try.prog w = .ok x2 w := by kernel_rfl
set_option maxHeartbeats 4000000 in
theorem snapTwice_walk {w : World} {v0 : Value} (hc : CounterIn w v0) (d : Int) (hd : (Lit.int .i32 d).wf = true) (th : Int) (hth : (Lit.int .u16 th).wf = true) : Calls Try.prog 7 #[v0, .int .i32 d, .int .u16 th] w (Ret (.bool true) w) := by
  have hd := bounds_i32 hd
  have hth := bounds_u16 hth
  obtain ⟨ba, sr, ga, gl, li, VA, V, vc, UA, U, uc, rfl, h0, h1, h2, h3, h4, hV, hv1, hvb, hU, hu1, hub⟩ := hc
  obtain ⟨b, hb⟩ : ∃ b : Nat, (b : Int) = ba % 8 := ⟨(ba % 8).toNat, by omega⟩
  have hz1 := sz4_bd sr
  have hz2 := sz4_bd li
  obtain ⟨s, hs⟩ : ∃ s : Nat, (s : Int) = sz4 sr := ⟨(sz4 sr).toNat, by omega⟩
  obtain ⟨g, hg⟩ : ∃ g : Nat, (g : Int) = ga % 40 + 1 := ⟨(ga % 40 + 1).toNat, by omega⟩
  obtain ⟨l, hl⟩ : ∃ l : Nat, (l : Int) = min (sz4 li) (sz4 sr) := ⟨(min (sz4 li) (sz4 sr)).toNat, by omega⟩
  have HP2 := hid (show p2 (s : Int) ∧ p2 (l : Int) ∧ (l : Int) ≤ s from ⟨by rw [hs]; exact sz4_p2 _, by rw [hl]; exact (p2_min (sz4_p2 _) (sz4_p2 _)).1, by rw [hl, hs]; exact (p2_min (sz4_p2 _) (sz4_p2 _)).2⟩)
  have hbb : b ≤ 7 := by omega
  have hss : 1 ≤ s ∧ s ≤ 8 := by omega
  have hgg : 1 ≤ g ∧ g ≤ 40 := by omega
  have hll : 1 ≤ l ∧ l ≤ 8 := by omega
  have HSZ := hid (fun w' => law6_Size ba sr ga gl li VA V.length vc UA U.length uc w' h0 h1 h2 h4)
  rw [← hl, ← hb, ← hs, ← hg] at HSZ
  have HWO := hid (fun (w' : World) (hk : Keep0 w w') hv hu => law6_Words ba sr ga gl li VA V vc UA U uc w' b s g l h0 h1 h2 h4 h3 (hV.keep hk) (hU.keep hk) hv hu hvb hub hb hs hg hl)
  skip
  have HK0 : Hid (Keep0 w (w.alloc (.cells #[.int .u8 ba, .int .u8 sr, .int .u16 ga, .int .i32 gl, .int .u8 li, .slice VA V.length vc, .slice UA U.length uc] 26))) := hid ((Keep.refl _ _).alloc _)
  clear hV hU hv1 hu1 hvb hub h0 h1 h2 h4 hb hs hg hl hz1 hz2
  obtain ⟨dd, hdd⟩ : ∃ dd, d.tmod 1048576 = dd := ⟨_, rfl⟩
  have hdb := tmod_bd d 1048576 (by omega)
  rw [hdd] at hdb
  obtain ⟨tn, htn⟩ : ∃ n : Nat, th.tmod 1001 = (n : Int) := ⟨(th % 1001).toNat, by rw [Int.tmod_eq_emod_of_nonneg hth.1]; omega⟩
  have htn2 : tn ≤ 1000 := by have := Int.emod_lt_of_pos th (show (0 : Int) < 1001 by omega); rw [Int.tmod_eq_emod_of_nonneg hth.1] at htn; omega
  have ydd : IntKind.i64.wrap dd = dd := IntWalk.i64_in _ (by omega)
  have ytn : IntKind.i64.wrap (tn : Int) = (tn : Int) := IntWalk.i64_in _ (by omega)
  have ydw : IntKind.i64.wrap d = d := IntWalk.i64_in _ (by omega)
  have ytw : IntKind.i64.wrap th = th := IntWalk.i64_in _ (by omega)
  go_enter Try.func7, Try.ntmps7
  go_wp2_with fail
  have HB : Hid (Blk (w.alloc (.cells #[.int .u8 ba, .int .u8 sr, .int .u16 ga, .int .i32 gl, .int .u8 li, .slice VA V.length vc, .slice UA U.length uc] 26)) w.heap.size 26 [.int .u8 ba, .int .u8 sr, .int .u16 ga, .int .i32 gl, .int .u8 li, .slice VA V.length vc, .slice UA U.length uc]) := hid (Blk.made rfl rfl)
  have qHB := HB.out.k7
  refine (law7_head _).mono ?_
  rintro e w1 ⟨rfl, hk⟩
  have HK1 : Hid (Keep0 w w1) := hid (Keep0.step (by repeat (with_reducible first | exact Keep.refl _ _ | exact HK0.out | apply Keep.alloc | apply Keep.drewN | apply Keep.drew)) hk)
  have THB := hk.blk (show Blk _ _ _ _ from by repeat (with_reducible first | exact HB.out | apply Blk.alloc | apply Blk.drewN | apply Blk.drew)) (fun h => h)
  clear hk qHB HB HK0
  have HB := hid THB
  clear THB
  have qHB := HB.out.k7
  by_cases hgd0 : 20 < V.length
  · go_wp2_with fail
    go_ret
    exact ⟨rfl, HK1.out⟩
  by_cases hgd1 : 20 < U.length
  · go_wp2_with fail
    go_ret
    exact ⟨rfl, HK1.out⟩
  go_wp2_with fail
  refine (HSZ.out _).mono ?_
  rintro e w2 ⟨rfl, hk⟩
  have HK2 : Hid (Keep0 w w2) := hid (Keep0.step (by repeat (with_reducible first | exact Keep.refl _ _ | exact HK1.out | apply Keep.alloc | apply Keep.drewN | apply Keep.drew)) hk)
  have THB := hk.blk (show Blk _ _ _ _ from by repeat (with_reducible first | exact HB.out | apply Blk.alloc | apply Blk.drewN | apply Blk.drew)) (fun h => h)
  clear hk qHB HB HK1
  have HB := hid THB
  clear THB
  have qHB := HB.out.k7
  clear HSZ
  go_wp2_with fail
  refine (HWO.out _ (by repeat (with_reducible first | exact Keep.refl _ _ | exact HK2.out | apply Keep.alloc | apply Keep.drewN | apply Keep.drew)) (by omega) (by omega)).mono ?_
  rintro e w3 ⟨wg, rfl, hwg, hk, hwge⟩
  generalize hN : b + 4 + s + 3 = N at *
  have HWF := hid (wf6 b s g gl l V U hgg)
  generalize words6 b g (zero6 b s gl l) V U s = WW at *
  have HN := hid hN
  have hln : WW.length = N := HWF.out.ln.trans hN
  have hN1 : b + 4 + s ≤ N := by omega
  have hN2 : N ≤ 22 := by omega
  clear hN
  have HWG := hid (Blk.ints hwg)
  have hwz : w.heap.size ≤ wg := Nat.le_trans HK2.out.size (by simpa using hwge)
  have HK3 : Hid (Keep0 w w3) := hid (Keep0.step (by repeat (with_reducible first | exact Keep.refl _ _ | exact HK2.out | apply Keep.alloc | apply Keep.drewN | apply Keep.drew)) hk)
  have THB := hk.blk (show Blk _ _ _ _ from by repeat (with_reducible first | exact HB.out | apply Blk.alloc | apply Blk.drewN | apply Blk.drew)) (fun h => h)
  clear hk qHB HB HK2
  have HB := hid THB
  clear THB
  have qHB := HB.out.k7
  clear hwg HWO hwge
  clear qHB HB
  go_wp2_with fail
  refine (law7_laid w.heap.size _ wg _ N WW HWG.out hln.symm (by omega) (by have := HK3.out.size; omega)).mono ?_
  rintro e w4 ⟨m, a, lv, rfl, hm, hk, hzm, hza⟩
  have hzm' : w.heap.size ≤ m := Nat.le_trans HK3.out.size hzm
  have hza' : w.heap.size ≤ a := Nat.le_trans HK3.out.size hza
  have hwgm : wg ≠ a := by have := HWG.out.lt; omega
  have HK4 : Hid (Keep0 w w4) := hid (Keep0.step (by repeat (with_reducible first | exact Keep.refl _ _ | exact HK3.out | apply Keep.alloc | apply Keep.drewN | apply Keep.drew)) hk)
  have THWG := hk.ints (show Ints _ _ _ from by repeat (with_reducible first | exact HWG.out | apply Ints.alloc | apply Ints.drewN | apply Ints.drew)) (fun h => h)
  clear hk HWG HK3
  have HWG := hid THWG
  clear THWG
  have HM := hid hm
  clear hm hzm hza
  clear HWG
  have hc0 : rd WW (b + 1) = rd WW (b + 2) := by rw [HWF.out.bg, HWF.out.dn]
  have hgl0 : -2147483648 ≤ rd WW b ∧ rd WW b ≤ 2147483647 := by rw [HWF.out.gl]; omega
  have HGA := hid HWF.out.gate
  have HLV := hid HWF.out.lv
  have hln' := hid hln
  have hlw : b + 4 + s ≤ WW.length := by omega
  have hlx : WW.length ≤ 22 := by omega
  clear hln HWF
  go_wp2_with fail
  have hks := HK4.out.size
  refine (snap_Count b s (1) _ (by omega) (by omega)).mono ?_
  rintro e w5 ⟨x1, R1, rfl, hk, hx, hr⟩
  have HRM1 := hid (new_mf HM.out hr)
  have hrz1 : ∀ k, R1 k → w.heap.size ≤ k := fun k h => Nat.le_trans hks (hr k h)
  have HK5 : Hid (Keep0 w w5) := hid (Keep0.step (by repeat (with_reducible first | exact Keep.refl _ _ | exact HK4.out | apply Keep.alloc | apply Keep.drewN | apply Keep.drew)) hk)
  have THM := MemAt.same (by repeat (with_reducible first | exact HM.out | apply MemAt.alloc | apply MemAt.drew)) hk
  clear hk HM HK4
  have HM := hid THM
  clear THM
  have HX1 := hid (hx (WW) ([]))
  clear hks hx hr
  go_wp2_with fail
  have hks := HK5.out.size
  refine (snap_Count b s (1) _ (by omega) (by omega)).mono ?_
  rintro e w6 ⟨x2, R2, rfl, hk, hx, hr⟩
  have HRM2 := hid (new_mf HM.out hr)
  have hrz2 : ∀ k, R2 k → w.heap.size ≤ k := fun k h => Nat.le_trans hks (hr k h)
  have HD1_2 := hid (fun k (h : R1 k) (h2 : R2 k) => (by have := HX1.out.lt k h; have := hr k h2; omega : False))
  have HD2_1 := hid (fun k (h : R2 k) (h2 : R1 k) => (by have := HX1.out.lt k h2; have := hr k h; omega : False))
  have HK6 : Hid (Keep0 w w6) := hid (Keep0.step (by repeat (with_reducible first | exact Keep.refl _ _ | exact HK5.out | apply Keep.alloc | apply Keep.drewN | apply Keep.drew)) hk)
  have THM := MemAt.same (by repeat (with_reducible first | exact HM.out | apply MemAt.alloc | apply MemAt.drew)) hk
  have THX1 := SnR.keep (show SnR _ _ _ _ _ _ from by repeat (with_reducible first | exact HX1.out | apply SnR.alloc | apply SnR.drew)) hk (fun _ _ h => h)
  clear hk HM HX1 HK5
  have HM := hid THM
  clear THM
  have HX1 := hid THX1
  clear THX1
  have HX2 := hid (hx (WW) ([]))
  clear hks hx hr
  go_wp2_with fail
  have hks := HK6.out.size
  refine (snap_Count b s (1) _ (by omega) (by omega)).mono ?_
  rintro e w7 ⟨x3, R3, rfl, hk, hx, hr⟩
  have HRM3 := hid (new_mf HM.out hr)
  have hrz3 : ∀ k, R3 k → w.heap.size ≤ k := fun k h => Nat.le_trans hks (hr k h)
  have HD1_3 := hid (fun k (h : R1 k) (h2 : R3 k) => (by have := HX1.out.lt k h; have := hr k h2; omega : False))
  have HD3_1 := hid (fun k (h : R3 k) (h2 : R1 k) => (by have := HX1.out.lt k h2; have := hr k h; omega : False))
  have HD2_3 := hid (fun k (h : R2 k) (h2 : R3 k) => (by have := HX2.out.lt k h; have := hr k h2; omega : False))
  have HD3_2 := hid (fun k (h : R3 k) (h2 : R2 k) => (by have := HX2.out.lt k h2; have := hr k h; omega : False))
  have HK7 : Hid (Keep0 w w7) := hid (Keep0.step (by repeat (with_reducible first | exact Keep.refl _ _ | exact HK6.out | apply Keep.alloc | apply Keep.drewN | apply Keep.drew)) hk)
  have THM := MemAt.same (by repeat (with_reducible first | exact HM.out | apply MemAt.alloc | apply MemAt.drew)) hk
  have THX1 := SnR.keep (show SnR _ _ _ _ _ _ from by repeat (with_reducible first | exact HX1.out | apply SnR.alloc | apply SnR.drew)) hk (fun _ _ h => h)
  have THX2 := SnR.keep (show SnR _ _ _ _ _ _ from by repeat (with_reducible first | exact HX2.out | apply SnR.alloc | apply SnR.drew)) hk (fun _ _ h => h)
  clear hk HM HX1 HX2 HK6
  have HM := hid THM
  clear THM
  have HX1 := hid THX1
  clear THX1
  have HX2 := hid THX2
  clear THX2
  have HX3 := hid (hx (WW) ([]))
  clear hks hx hr
  go_wp2_with fail
  have hks := HK7.out.size
  refine (snap_Peek b _).mono ?_
  rintro e w8 ⟨x4, R4, rfl, hk, hx, hr⟩
  have HRM4 := hid (new_mf HM.out hr)
  have hrz4 : ∀ k, R4 k → w.heap.size ≤ k := fun k h => Nat.le_trans hks (hr k h)
  have HD1_4 := hid (fun k (h : R1 k) (h2 : R4 k) => (by have := HX1.out.lt k h; have := hr k h2; omega : False))
  have HD4_1 := hid (fun k (h : R4 k) (h2 : R1 k) => (by have := HX1.out.lt k h2; have := hr k h; omega : False))
  have HD2_4 := hid (fun k (h : R2 k) (h2 : R4 k) => (by have := HX2.out.lt k h; have := hr k h2; omega : False))
  have HD4_2 := hid (fun k (h : R4 k) (h2 : R2 k) => (by have := HX2.out.lt k h2; have := hr k h; omega : False))
  have HD3_4 := hid (fun k (h : R3 k) (h2 : R4 k) => (by have := HX3.out.lt k h; have := hr k h2; omega : False))
  have HD4_3 := hid (fun k (h : R4 k) (h2 : R3 k) => (by have := HX3.out.lt k h2; have := hr k h; omega : False))
  have HK8 : Hid (Keep0 w w8) := hid (Keep0.step (by repeat (with_reducible first | exact Keep.refl _ _ | exact HK7.out | apply Keep.alloc | apply Keep.drewN | apply Keep.drew)) hk)
  have THM := MemAt.same (by repeat (with_reducible first | exact HM.out | apply MemAt.alloc | apply MemAt.drew)) hk
  have THX1 := SnR.keep (show SnR _ _ _ _ _ _ from by repeat (with_reducible first | exact HX1.out | apply SnR.alloc | apply SnR.drew)) hk (fun _ _ h => h)
  have THX2 := SnR.keep (show SnR _ _ _ _ _ _ from by repeat (with_reducible first | exact HX2.out | apply SnR.alloc | apply SnR.drew)) hk (fun _ _ h => h)
  have THX3 := SnR.keep (show SnR _ _ _ _ _ _ from by repeat (with_reducible first | exact HX3.out | apply SnR.alloc | apply SnR.drew)) hk (fun _ _ h => h)
  clear hk HM HX1 HX2 HX3 HK7
  have HM := hid THM
  clear THM
  have HX1 := hid THX1
  clear THX1
  have HX2 := hid THX2
  clear THX2
  have HX3 := hid THX3
  clear THX3
  have HX4 := hid (hx (WW) ([]))
  clear hks hx hr
  have HX1 := hid (HX1.out.wl WW [])
  go_wp2_with fail
  have hp := play_count (b := b) (s := s) (B := w.heap.size) (w := w8) (m := m) (a := a) (x := x1) (lv := lv) (R := R1) ⟨WW, [], 1, [], 0, false, false⟩ [] none 0 0 0 (100) (by omega) HM.out HX1.out HRM1.out (NInv.start (by show b + 4 + s ≤ WW.length; omega) (by omega) hss (by omega)) (by simp) (by omega) (by simp) (fun h => by simp at h) (fun i h => by simp at h)
  obtain ⟨p1, hpe, hpw1, hpn1, hpx1, hpl1⟩ := calm1 WW [] b s 100 hss hc0 (by omega)
  rw [show (⟨WW, [], 1, [], 0, false, false⟩ : SN).W.length = WW.length from rfl, hpe] at hp
  simp only at hp
  clear hpe
  refine hp.mono ?_
  rintro e w9 ⟨rfl, ⟨kk, lv', R', hm, ho, hx, hlen, hlg, hin, _, hr1, hr2⟩, hk⟩
  have hrz' : ∀ k, R' k → w.heap.size ≤ k := fun k h => (hr1 k h).elim (hrz1 k) (fun h2 => Nat.le_trans HK8.out.size h2)
  have THX2 := HX2.out.keep hk (fun k hr => nplay_no HM.out (HRM2.out k hr) (HD2_1.out k hr) (HX2.out.lt k hr))
  have HRN2 := hid (fun k (hr : R2 k) => (play_mf7 HM.out ho HRM2.out HX2.out.lt k hr : ¬ MF m a lv' k))
  have HDN2 := hid (fun k (h : R2 k) (h2 : R' k) => ((hr1 k h2).elim (HD2_1.out k h) (fun h3 => by have := HX2.out.lt k h; omega) : False))
  have THX3 := HX3.out.keep hk (fun k hr => nplay_no HM.out (HRM3.out k hr) (HD3_1.out k hr) (HX3.out.lt k hr))
  have HRN3 := hid (fun k (hr : R3 k) => (play_mf7 HM.out ho HRM3.out HX3.out.lt k hr : ¬ MF m a lv' k))
  have HDN3 := hid (fun k (h : R3 k) (h2 : R' k) => ((hr1 k h2).elim (HD3_1.out k h) (fun h3 => by have := HX3.out.lt k h; omega) : False))
  have THX4 := HX4.out.keep hk (fun k hr => nplay_no HM.out (HRM4.out k hr) (HD4_1.out k hr) (HX4.out.lt k hr))
  have HRN4 := hid (fun k (hr : R4 k) => (play_mf7 HM.out ho HRM4.out HX4.out.lt k hr : ¬ MF m a lv' k))
  have HDN4 := hid (fun k (h : R4 k) (h2 : R' k) => ((hr1 k h2).elim (HD4_1.out k h) (fun h3 => by have := HX4.out.lt k h; omega) : False))
  have HK9 : Hid (Keep0 w w9) := hid (nplay_far HM.out hrz1 hk HK8.out rfl)
  clear hp HM HX1 HK8 hk hrz1 HRM1 ho hr1 HX2 HX3 HX4 HRM2 HD2_1 HD1_2 HRM3 HD3_1 HD1_3 HRM4 HD4_1 HD1_4
  obtain ⟨lv, hlv⟩ : ∃ v, v = lv' := ⟨_, rfl⟩
  subst hlv
  have HM := hid hm
  have HX1 := hid hx
  have HI1 := hid hin
  have HRM1 := hid hr2
  have hrz1 := hrz'
  have HLEN1 := hid hlen
  clear hm hx hin hr2 hrz' hlen hlg
  have HX2 := hid THX2
  clear THX2
  have HX3 := hid THX3
  clear THX3
  have HX4 := hid THX4
  clear THX4
  have HRM2 := HRN2
  have HD2_1 := HDN2
  have HD1_2 := hid (fun k (h : R' k) (h2 : R2 k) => HDN2.out k h2 h)
  clear HRN2 HDN2
  have HRM3 := HRN3
  have HD3_1 := HDN3
  have HD1_3 := hid (fun k (h : R' k) (h2 : R3 k) => HDN3.out k h2 h)
  clear HRN3 HDN3
  have HRM4 := HRN4
  have HD4_1 := HDN4
  have HD1_4 := hid (fun k (h : R' k) (h2 : R4 k) => HDN4.out k h2 h)
  clear HRN4 HDN4
  obtain ⟨R1, hRR⟩ : ∃ v, v = R' := ⟨_, rfl⟩
  subst hRR
  have HM := hid (show MemAt _ _ _ _ _ WW p1.L from by have h := HM.out; rw [hpw1] at h; exact h)
  clear hpw1
  have HA1 := hid (fun (w' : World) (h : SnR b s R1 w' x1 p1) => (by have := count_Ans p1 h; rw [hpn1, hpx1] at this; exact this : Calls Try.prog 16 #[ptr x1] w' (Ret (.agg #[i64 0, i64 (sumN WW b s), .bool true, i64 0]) w')))
  clear hpn1 hpx1
  have hl1 : p1.L.length = 4 + 2 * s := by rw [hpl1]; simp
  have HX2 := hid (HX2.out.wl WW p1.L)
  go_wp2_with fail
  have hp := play_count (b := b) (s := s) (B := w.heap.size) (w := w9) (m := m) (a := a) (x := x2) (lv := lv) (R := R2) ⟨WW, p1.L, 1, [], 0, false, false⟩ [] none 0 0 0 (100) (by omega) HM.out HX2.out HRM2.out (NInv.start (by show b + 4 + s ≤ WW.length; omega) (by omega) hss (by omega)) (by show p1.L.length ≤ 1000000; omega) (by omega) (by simp) (fun h => by simp at h) (fun i h => by simp at h)
  obtain ⟨p2, hpe, hpw2, hpn2, hpx2, hpl2⟩ := calm1 WW p1.L b s 100 hss hc0 (by omega)
  rw [show (⟨WW, p1.L, 1, [], 0, false, false⟩ : SN).W.length = WW.length from rfl, hpe] at hp
  simp only at hp
  clear hpe
  refine hp.mono ?_
  rintro e w10 ⟨rfl, ⟨kk, lv', R', hm, ho, hx, hlen, hlg, hin, _, hr1, hr2⟩, hk⟩
  have hrz' : ∀ k, R' k → w.heap.size ≤ k := fun k h => (hr1 k h).elim (hrz2 k) (fun h2 => Nat.le_trans HK9.out.size h2)
  have THX1 := HX1.out.keep hk (fun k hr => nplay_no HM.out (HRM1.out k hr) (HD1_2.out k hr) (HX1.out.lt k hr))
  have HRN1 := hid (fun k (hr : R1 k) => (play_mf7 HM.out ho HRM1.out HX1.out.lt k hr : ¬ MF m a lv' k))
  have HDN1 := hid (fun k (h : R1 k) (h2 : R' k) => ((hr1 k h2).elim (HD1_2.out k h) (fun h3 => by have := HX1.out.lt k h; omega) : False))
  have THX3 := HX3.out.keep hk (fun k hr => nplay_no HM.out (HRM3.out k hr) (HD3_2.out k hr) (HX3.out.lt k hr))
  have HRN3 := hid (fun k (hr : R3 k) => (play_mf7 HM.out ho HRM3.out HX3.out.lt k hr : ¬ MF m a lv' k))
  have HDN3 := hid (fun k (h : R3 k) (h2 : R' k) => ((hr1 k h2).elim (HD3_2.out k h) (fun h3 => by have := HX3.out.lt k h; omega) : False))
  have THX4 := HX4.out.keep hk (fun k hr => nplay_no HM.out (HRM4.out k hr) (HD4_2.out k hr) (HX4.out.lt k hr))
  have HRN4 := hid (fun k (hr : R4 k) => (play_mf7 HM.out ho HRM4.out HX4.out.lt k hr : ¬ MF m a lv' k))
  have HDN4 := hid (fun k (h : R4 k) (h2 : R' k) => ((hr1 k h2).elim (HD4_2.out k h) (fun h3 => by have := HX4.out.lt k h; omega) : False))
  have HK10 : Hid (Keep0 w w10) := hid (nplay_far HM.out hrz2 hk HK9.out rfl)
  clear hp HM HX2 HK9 hk hrz2 HRM2 ho hr1 HX1 HX3 HX4 HRM1 HD1_2 HD2_1 HRM3 HD3_2 HD2_3 HRM4 HD4_2 HD2_4
  obtain ⟨lv, hlv⟩ : ∃ v, v = lv' := ⟨_, rfl⟩
  subst hlv
  have HM := hid hm
  have HX2 := hid hx
  have HI2 := hid hin
  have HRM2 := hid hr2
  have hrz2 := hrz'
  have HLEN2 := hid hlen
  clear hm hx hin hr2 hrz' hlen hlg
  have HX1 := hid THX1
  clear THX1
  have HX3 := hid THX3
  clear THX3
  have HX4 := hid THX4
  clear THX4
  have HRM1 := HRN1
  have HD1_2 := HDN1
  have HD2_1 := hid (fun k (h : R' k) (h2 : R1 k) => HDN1.out k h2 h)
  clear HRN1 HDN1
  have HRM3 := HRN3
  have HD3_2 := HDN3
  have HD2_3 := hid (fun k (h : R' k) (h2 : R3 k) => HDN3.out k h2 h)
  clear HRN3 HDN3
  have HRM4 := HRN4
  have HD4_2 := HDN4
  have HD2_4 := hid (fun k (h : R' k) (h2 : R4 k) => HDN4.out k h2 h)
  clear HRN4 HDN4
  obtain ⟨R2, hRR⟩ : ∃ v, v = R' := ⟨_, rfl⟩
  subst hRR
  have HM := hid (show MemAt _ _ _ _ _ WW p2.L from by have h := HM.out; rw [hpw2] at h; exact h)
  clear hpw2
  have HA2 := hid (fun (w' : World) (h : SnR b s R2 w' x2 p2) => (by have := count_Ans p2 h; rw [hpn2, hpx2] at this; exact this : Calls Try.prog 16 #[ptr x2] w' (Ret (.agg #[i64 0, i64 (sumN WW b s), .bool true, i64 0]) w')))
  clear hpn2 hpx2
  have hgl : -4611686018427387904 ≤ rd WW b ∧ rd WW b ≤ 4611686018427387904 := by omega
  go_wp2_with fail
  obtain ⟨x7, hx7⟩ : ∃ n : Nat, (n : Int) = dBegin (tn : Nat) := ⟨(dBegin (tn : Nat)).toNat, Int.toNat_of_nonneg (dBegin_bd _).1⟩
  have hbx7 : (x7 : Int) < 4294967296 := by rw [hx7]; exact (dBegin_bd _).2
  refine (add_New b s g (dd) tn _ (by omega) x7 hx7).mono ?_
  rintro e w11 ⟨xa, rfl, hx, hk, hbx⟩
  have hzxa : w.heap.size ≤ xa := Nat.le_trans HK10.out.size hx
  have hlxa := hx
  have hn1 : ¬ R1 xa := fun h => by have := HX1.out.lt _ h; omega
  have hn2 : ¬ R2 xa := fun h => by have := HX2.out.lt _ h; omega
  have hn3 : ¬ R3 xa := fun h => by have := HX3.out.lt _ h; omega
  have hn4 : ¬ R4 xa := fun h => by have := HX4.out.lt _ h; omega
  have HK11 : Hid (Keep0 w w11) := hid (Keep0.step (by repeat (with_reducible first | exact Keep.refl _ _ | exact HK10.out | apply Keep.alloc | apply Keep.drewN | apply Keep.drew)) hk)
  have THM := MemAt.same (by repeat (with_reducible first | exact HM.out | apply MemAt.alloc | apply MemAt.drew)) hk
  have THX1 := SnR.keep (show SnR _ _ _ _ _ _ from by repeat (with_reducible first | exact HX1.out | apply SnR.alloc | apply SnR.drew)) hk (fun _ _ h => h)
  have THX2 := SnR.keep (show SnR _ _ _ _ _ _ from by repeat (with_reducible first | exact HX2.out | apply SnR.alloc | apply SnR.drew)) hk (fun _ _ h => h)
  have THX3 := SnR.keep (show SnR _ _ _ _ _ _ from by repeat (with_reducible first | exact HX3.out | apply SnR.alloc | apply SnR.drew)) hk (fun _ _ h => h)
  have THX4 := PkR.keep (show PkR _ _ _ _ _ from by repeat (with_reducible first | exact HX4.out | apply PkR.alloc | apply PkR.drew)) hk (fun _ _ h => h)
  clear hk HM HX1 HX2 HX3 HX4 HK10
  have HM := hid THM
  clear THM
  have HX1 := hid THX1
  clear THX1
  have HX2 := hid THX2
  clear THX2
  have HX3 := hid THX3
  clear THX3
  have HX4 := hid THX4
  clear THX4
  have HX7K := hid hx7
  clear hx hx7
  have HX := hid hbx
  clear hbx
  have HAI := hid (AInv.start (b := b) (s := s) (g := g) (d := dd) (W := WW) (L := p2.L) (x := (x7 : Int)) (by omega) (by omega) HP2.out.1 (by omega) (by omega) (by rw [HLV.out]; exact HP2.out.2) (by omega))
  go_wp2_with fail
  obtain ⟨t2, n1, hpl, h9, hLl, hal⟩ := alone (b := b) (s := s) (g := g) (d := dd) (L := p2.L) HAI.out hgl WW.length 94
  have hp := play_add (B := w.heap.size) (w := w11) (m := m) (a := a) (x := xa) (lv := lv) (b := b) (s := s) (g := g) (d := dd) ⟨WW, p2.L, 0, (x7 : Int), 0, 0, 0, 0⟩ [] none 0 0 0 100 HM.out HX.out HAI.out (by show p2.L.length ≤ 1000000; omega) (by omega) (by simp) (by intro p hp; cases hp) (fun h => by simp at h) (fun i h => by simp at h)
  rw [show (AS.mk WW p2.L 0 (x7 : Int) 0 0 0 0).W.length = WW.length from rfl, show (100 : Nat) = 94 + 6 from rfl, hpl] at hp
  refine hp.mono ?_
  rintro e w12 ⟨rfl, ⟨kk, lv', hm, ho, hx, _⟩, hk⟩
  have HAL := hid hal
  have HLL := hid hLl
  clear hp hpl hal hLl h9 HAI
  have THX1 := HX1.out.keep hk (fun k hr => addplay_no HM.out (HRM1.out k hr) (fun e => hn1 (e ▸ hr)) (HX1.out.lt k hr))
  have HRN1 := hid (fun k (hr : R1 k) => (play_mf7 HM.out ho HRM1.out HX1.out.lt k hr : ¬ MF m a lv' k))
  have THX2 := HX2.out.keep hk (fun k hr => addplay_no HM.out (HRM2.out k hr) (fun e => hn2 (e ▸ hr)) (HX2.out.lt k hr))
  have HRN2 := hid (fun k (hr : R2 k) => (play_mf7 HM.out ho HRM2.out HX2.out.lt k hr : ¬ MF m a lv' k))
  have THX3 := HX3.out.keep hk (fun k hr => addplay_no HM.out (HRM3.out k hr) (fun e => hn3 (e ▸ hr)) (HX3.out.lt k hr))
  have HRN3 := hid (fun k (hr : R3 k) => (play_mf7 HM.out ho HRM3.out HX3.out.lt k hr : ¬ MF m a lv' k))
  have THX4 := HX4.out.keep hk (fun k hr => addplay_no HM.out (HRM4.out k hr) (fun e => hn4 (e ▸ hr)) (HX4.out.lt k hr))
  have HRN4 := hid (fun k (hr : R4 k) => (play_mf7 HM.out ho HRM4.out HX4.out.lt k hr : ¬ MF m a lv' k))
  have HK12 : Hid (Keep0 w w12) := hid (adplay_far HM.out hzxa hk w HK11.out (Nat.le_refl _))
  clear HM HX HK11 hk ho HX1 HRM1 HX2 HRM2 HX3 HRM3 HX4 HRM4
  obtain ⟨lv, hlv⟩ : ∃ v, v = lv' := ⟨_, rfl⟩
  subst hlv
  have HM := hid hm
  clear hm hx
  have HX1 := hid THX1
  clear THX1
  have HRM1 := HRN1
  clear HRN1
  have HX2 := hid THX2
  clear THX2
  have HRM2 := HRN2
  clear HRN2
  have HX3 := hid THX3
  clear THX3
  have HRM3 := HRN3
  clear HRN3
  have HX4 := hid THX4
  clear THX4
  have HRM4 := HRN4
  clear HRN4
  have hc2 : rd t2.W (b + 1) = rd t2.W (b + 2) := by rcases HAL.out.n36 with ⟨_, _, h1, h2⟩ | ⟨_, h1, h2⟩ <;> rw [h1, h2, hc0]
  have hl2w : t2.W.length = WW.length := HAL.out.ln
  have hn16 : n1 ≤ 6 := by rcases HAL.out.n36 with ⟨h, _⟩ | ⟨h, _⟩ <;> omega
  have hl2 : t2.L.length ≤ 100 := by rw [HLL.out]; omega
  obtain ⟨hs1, hs2, hs3, hs4, hs5, hs6⟩ := twice_gap hgg hss.2 hgl0 ⟨by omega, by omega⟩ HGA.out HAL.out
  clear HGA HAL HLL hc0 hgl hgl0
  have HX3 := hid (HX3.out.wl t2.W t2.L)
  go_wp2_with fail
  have hp := play_count (b := b) (s := s) (B := w.heap.size) (w := w12) (m := m) (a := a) (x := x3) (lv := lv) (R := R3) ⟨t2.W, t2.L, 1, [], 0, false, false⟩ [] none 0 0 0 (100) (by omega) HM.out HX3.out HRM3.out (NInv.start (by show b + 4 + s ≤ t2.W.length; omega) (by omega) hss (by omega)) (by show t2.L.length ≤ 1000000; omega) (by omega) (by simp) (fun h => by simp at h) (fun i h => by simp at h)
  obtain ⟨p3, hpe, hpw3, hpn3, hpx3, hpl3⟩ := calm1 t2.W t2.L b s 100 hss hc2 (by omega)
  rw [show (⟨t2.W, t2.L, 1, [], 0, false, false⟩ : SN).W.length = t2.W.length from rfl, hpe] at hp
  simp only at hp
  clear hpe
  refine hp.mono ?_
  rintro e w13 ⟨rfl, ⟨kk, lv', R', hm, ho, hx, hlen, hlg, hin, _, hr1, hr2⟩, hk⟩
  have hrz' : ∀ k, R' k → w.heap.size ≤ k := fun k h => (hr1 k h).elim (hrz3 k) (fun h2 => Nat.le_trans HK12.out.size h2)
  have THX1 := HX1.out.keep hk (fun k hr => nplay_no HM.out (HRM1.out k hr) (HD1_3.out k hr) (HX1.out.lt k hr))
  have HRN1 := hid (fun k (hr : R1 k) => (play_mf7 HM.out ho HRM1.out HX1.out.lt k hr : ¬ MF m a lv' k))
  have HDN1 := hid (fun k (h : R1 k) (h2 : R' k) => ((hr1 k h2).elim (HD1_3.out k h) (fun h3 => by have := HX1.out.lt k h; omega) : False))
  have THX2 := HX2.out.keep hk (fun k hr => nplay_no HM.out (HRM2.out k hr) (HD2_3.out k hr) (HX2.out.lt k hr))
  have HRN2 := hid (fun k (hr : R2 k) => (play_mf7 HM.out ho HRM2.out HX2.out.lt k hr : ¬ MF m a lv' k))
  have HDN2 := hid (fun k (h : R2 k) (h2 : R' k) => ((hr1 k h2).elim (HD2_3.out k h) (fun h3 => by have := HX2.out.lt k h; omega) : False))
  have THX4 := HX4.out.keep hk (fun k hr => nplay_no HM.out (HRM4.out k hr) (HD4_3.out k hr) (HX4.out.lt k hr))
  have HRN4 := hid (fun k (hr : R4 k) => (play_mf7 HM.out ho HRM4.out HX4.out.lt k hr : ¬ MF m a lv' k))
  have HDN4 := hid (fun k (h : R4 k) (h2 : R' k) => ((hr1 k h2).elim (HD4_3.out k h) (fun h3 => by have := HX4.out.lt k h; omega) : False))
  have HK13 : Hid (Keep0 w w13) := hid (nplay_far HM.out hrz3 hk HK12.out rfl)
  clear hp HM HX3 HK12 hk hrz3 HRM3 ho hr1 HX1 HX2 HX4 HRM1 HD1_3 HD3_1 HRM2 HD2_3 HD3_2 HRM4 HD4_3 HD3_4
  obtain ⟨lv, hlv⟩ : ∃ v, v = lv' := ⟨_, rfl⟩
  subst hlv
  have HM := hid hm
  have HX3 := hid hx
  have HI3 := hid hin
  have HRM3 := hid hr2
  have hrz3 := hrz'
  have HLEN3 := hid hlen
  clear hm hx hin hr2 hrz' hlen hlg
  have HX1 := hid THX1
  clear THX1
  have HX2 := hid THX2
  clear THX2
  have HX4 := hid THX4
  clear THX4
  have HRM1 := HRN1
  have HD1_3 := HDN1
  have HD3_1 := hid (fun k (h : R' k) (h2 : R1 k) => HDN1.out k h2 h)
  clear HRN1 HDN1
  have HRM2 := HRN2
  have HD2_3 := HDN2
  have HD3_2 := hid (fun k (h : R' k) (h2 : R2 k) => HDN2.out k h2 h)
  clear HRN2 HDN2
  have HRM4 := HRN4
  have HD4_3 := HDN4
  have HD3_4 := hid (fun k (h : R' k) (h2 : R4 k) => HDN4.out k h2 h)
  clear HRN4 HDN4
  obtain ⟨R3, hRR⟩ : ∃ v, v = R' := ⟨_, rfl⟩
  subst hRR
  have HM := hid (show MemAt _ _ _ _ _ t2.W p3.L from by have h := HM.out; rw [hpw3] at h; exact h)
  clear hpw3
  have HA3 := hid (fun (w' : World) (h : SnR b s R3 w' x3 p3) => (by have := count_Ans p3 h; rw [hpn3, hpx3] at this; exact this : Calls Try.prog 16 #[ptr x3] w' (Ret (.agg #[i64 0, i64 (sumN t2.W b s), .bool true, i64 0]) w')))
  clear hpn3 hpx3
  have HX4 := hid (HX4.out.wl t2.W p3.L)
  go_wp2_with fail
  have hp := play_peek (b := b) (B := w.heap.size) (w := w13) (m := m) (a := a) (x := x4) (lv := lv) (R := R4) ⟨t2.W, p3.L, 0, [], 0, false, false⟩ [] none 0 0 0 (100) (by omega) HM.out HX4.out HRM4.out (⟨by show b < t2.W.length; omega, fun _ => ⟨rfl, rfl⟩⟩) (by show p3.L.length ≤ 1000000; omega) (by omega) (by simp) (fun h => by simp at h) (fun i h => by simp at h)
  rw [show (⟨t2.W, p3.L, 0, [], 0, false, false⟩ : SN).W.length = t2.W.length from rfl, show (100 : Nat) = 99 + 1 from rfl, glance1] at hp
  simp only at hp
  refine hp.mono ?_
  rintro e w14 ⟨rfl, ⟨kk, lv', R', hm, ho, hx, hlen, hlg, hin, _, hr1, hr2⟩, hk⟩
  have hrz' : ∀ k, R' k → w.heap.size ≤ k := fun k h => (hr1 k h).elim (hrz4 k) (fun h2 => Nat.le_trans HK13.out.size h2)
  have THX1 := HX1.out.keep hk (fun k hr => nplay_no HM.out (HRM1.out k hr) (HD1_4.out k hr) (HX1.out.lt k hr))
  have HRN1 := hid (fun k (hr : R1 k) => (play_mf7 HM.out ho HRM1.out HX1.out.lt k hr : ¬ MF m a lv' k))
  have HDN1 := hid (fun k (h : R1 k) (h2 : R' k) => ((hr1 k h2).elim (HD1_4.out k h) (fun h3 => by have := HX1.out.lt k h; omega) : False))
  have THX2 := HX2.out.keep hk (fun k hr => nplay_no HM.out (HRM2.out k hr) (HD2_4.out k hr) (HX2.out.lt k hr))
  have HRN2 := hid (fun k (hr : R2 k) => (play_mf7 HM.out ho HRM2.out HX2.out.lt k hr : ¬ MF m a lv' k))
  have HDN2 := hid (fun k (h : R2 k) (h2 : R' k) => ((hr1 k h2).elim (HD2_4.out k h) (fun h3 => by have := HX2.out.lt k h; omega) : False))
  have THX3 := HX3.out.keep hk (fun k hr => nplay_no HM.out (HRM3.out k hr) (HD3_4.out k hr) (HX3.out.lt k hr))
  have HRN3 := hid (fun k (hr : R3 k) => (play_mf7 HM.out ho HRM3.out HX3.out.lt k hr : ¬ MF m a lv' k))
  have HDN3 := hid (fun k (h : R3 k) (h2 : R' k) => ((hr1 k h2).elim (HD3_4.out k h) (fun h3 => by have := HX3.out.lt k h; omega) : False))
  have HK14 : Hid (Keep0 w w14) := hid (nplay_far HM.out hrz4 hk HK13.out rfl)
  clear hp HM HX4 HK13 hk hrz4 HRM4 ho hr1 HX1 HX2 HX3 HRM1 HD1_4 HD4_1 HRM2 HD2_4 HD4_2 HRM3 HD3_4 HD4_3
  obtain ⟨lv, hlv⟩ : ∃ v, v = lv' := ⟨_, rfl⟩
  subst hlv
  have HM := hid hm
  have HX4 := hid hx
  have HI4 := hid hin
  have HRM4 := hid hr2
  have hrz4 := hrz'
  have HLEN4 := hid hlen
  clear hm hx hin hr2 hrz' hlen hlg
  have HX1 := hid THX1
  clear THX1
  have HX2 := hid THX2
  clear THX2
  have HX3 := hid THX3
  clear THX3
  have HRM1 := HRN1
  have HD1_4 := HDN1
  have HD4_1 := hid (fun k (h : R' k) (h2 : R1 k) => HDN1.out k h2 h)
  clear HRN1 HDN1
  have HRM2 := HRN2
  have HD2_4 := HDN2
  have HD4_2 := hid (fun k (h : R' k) (h2 : R2 k) => HDN2.out k h2 h)
  clear HRN2 HDN2
  have HRM3 := HRN3
  have HD3_4 := HDN3
  have HD4_3 := hid (fun k (h : R' k) (h2 : R3 k) => HDN3.out k h2 h)
  clear HRN3 HDN3
  obtain ⟨R4, hRR⟩ : ∃ v, v = R' := ⟨_, rfl⟩
  subst hRR
  have HA4 := hid (fun (w' : World) h => (peek_Ans _ h : Calls Try.prog 16 #[ptr x4] w' (Ret (.agg #[i64 0, i64 (rd t2.W b), .bool false, i64 0]) w')) : ∀ w', PkR b R4 w' x4 ⟨t2.W, p3.L ++ [⟨1, (b : Nat), rd t2.W b, 0, false⟩], 0, [], rd t2.W b, false, true⟩ → _)
  clear HM
  rw [hs1] at HA1 HA2
  rw [hs2] at HA3
  clear hs1 hs2
  generalize sP WW b s = sm at *
  generalize hpk : rd t2.W b = pk at *
  obtain ⟨gp, hgp⟩ : ∃ gp, gp = sm + dd - pk := ⟨_, rfl⟩
  obtain ⟨Q, hQ⟩ : ∃ Q, Q = s * (g - 1) := ⟨_, rfl⟩
  rw [← hgp, ← hQ] at hs5 hs6
  have hQb : Q ≤ 8 * 39 := by rw [hQ]; exact Nat.mul_le_mul hss.2 (by omega)
  have yg : IntKind.i64.wrap (sm + dd - pk) = gp := by rw [← hgp]; exact IntWalk.i64_in _ (by omega)
  have ysd : IntKind.i64.wrap (sm + dd) = sm + dd := IntWalk.i64_in _ (by omega)
  have HQ := hid hQ
  clear hgp hQ
  go_wp2_with fail
  refine (HA3.out _ HX3.out).mono ?_
  rintro e w15 ⟨rfl, hk⟩
  have HK15 : Hid (Keep0 w w15) := hid (Keep0.step (by repeat (with_reducible first | exact Keep.refl _ _ | exact HK14.out | apply Keep.alloc | apply Keep.drewN | apply Keep.drew)) hk)
  have THX1 := SnR.keep (show SnR _ _ _ _ _ _ from by repeat (with_reducible first | exact HX1.out | apply SnR.alloc | apply SnR.drew)) hk (fun _ _ h => h)
  have THX2 := SnR.keep (show SnR _ _ _ _ _ _ from by repeat (with_reducible first | exact HX2.out | apply SnR.alloc | apply SnR.drew)) hk (fun _ _ h => h)
  have THX3 := SnR.keep (show SnR _ _ _ _ _ _ from by repeat (with_reducible first | exact HX3.out | apply SnR.alloc | apply SnR.drew)) hk (fun _ _ h => h)
  have THX4 := PkR.keep (show PkR _ _ _ _ _ from by repeat (with_reducible first | exact HX4.out | apply PkR.alloc | apply PkR.drew)) hk (fun _ _ h => h)
  clear hk HX1 HX2 HX3 HX4 HK14
  have HX1 := hid THX1
  clear THX1
  have HX2 := hid THX2
  clear THX2
  have HX3 := hid THX3
  clear THX3
  have HX4 := hid THX4
  clear THX4
  go_wp2_with fail
  refine (HA4.out _ HX4.out).mono ?_
  rintro e w16 ⟨rfl, hk⟩
  have HK16 : Hid (Keep0 w w16) := hid (Keep0.step (by repeat (with_reducible first | exact Keep.refl _ _ | exact HK15.out | apply Keep.alloc | apply Keep.drewN | apply Keep.drew)) hk)
  have THX1 := SnR.keep (show SnR _ _ _ _ _ _ from by repeat (with_reducible first | exact HX1.out | apply SnR.alloc | apply SnR.drew)) hk (fun _ _ h => h)
  have THX2 := SnR.keep (show SnR _ _ _ _ _ _ from by repeat (with_reducible first | exact HX2.out | apply SnR.alloc | apply SnR.drew)) hk (fun _ _ h => h)
  have THX3 := SnR.keep (show SnR _ _ _ _ _ _ from by repeat (with_reducible first | exact HX3.out | apply SnR.alloc | apply SnR.drew)) hk (fun _ _ h => h)
  have THX4 := PkR.keep (show PkR _ _ _ _ _ from by repeat (with_reducible first | exact HX4.out | apply PkR.alloc | apply PkR.drew)) hk (fun _ _ h => h)
  clear hk HX1 HX2 HX3 HX4 HK15
  have HX1 := hid THX1
  clear THX1
  have HX2 := hid THX2
  clear THX2
  have HX3 := hid THX3
  clear THX3
  have HX4 := hid THX4
  clear THX4
  go_wp2_with fail
  go_loopw [28, 29] (fun u v wr => ∃ i : Nat, i ≤ s ∧ u = .int .i64 ((i * (g - 1) : Nat) : Int) ∧ v = .int .i64 (i : Int) ∧ Keep0 w16 wr) (fun _ v _ => s - (intOf v).toNat)
  case atStart => exact ⟨0, Nat.zero_le _, by rw [Nat.zero_mul]; rfl, rfl, Keep.refl _ _⟩
  case round =>
    obtain ⟨i, hi, rfl, rfl, hk⟩ := hrel
    have HKR := hid hk
    by_cases hlt : i < s
    · obtain ⟨q, hq⟩ : ∃ q, q = i * (g - 1) := ⟨_, rfl⟩
      have hqb : q ≤ 8 * 39 := by rw [hq]; exact Nat.mul_le_mul (by omega) (by omega)
      have hq2 : (i + 1) * (g - 1) = q + (g - 1) := by rw [Nat.add_mul, Nat.one_mul, hq]
      have HQ2 := hid hq2
      rw [← hq]
      have y1 : IntKind.i64.wrap ((q : Int) + (g : Int)) = (q : Int) + (g : Int) := IntWalk.i64_in _ (by omega)
      have y2 : IntKind.i64.wrap ((q : Int) + (g : Int) - 1) = ((q + (g - 1) : Nat) : Int) := by rw [IntWalk.i64_in _ (by omega)]; omega
      clear hq hq2 hk
      go_wp2_with fail
      go_roundw
      case rel => exact ⟨i + 1, by omega, by rw [HQ2.out]; first | rfl | (rw [Int.natCast_add]), by go_num, HKR.out⟩
      case measure => simp [intOf]; omega
    · obtain rfl : i = s := by omega
      rw [← HQ.out]
      have HK90 : Hid (Keep0 w wr) := hid (Keep0.step HK16.out hk)
      have HX1' := hid (HX1.out.keep hk (fun _ _ h => h))
      have HX2' := hid (HX2.out.keep hk (fun _ _ h => h))
      have HX3' := hid (HX3.out.keep hk (fun _ _ h => h))
      clear hk HKR HX1 HX2 HX3 HX4 HK16
      have HX1 := HX1'
      have HX2 := HX2'
      have HX3 := HX3'
      clear HX1' HX2' HX3'
      obtain ⟨w90, hw90⟩ : ∃ v, v = wr := ⟨_, rfl⟩
      subst hw90
      have g1 : decide (gp ≤ (Q : Int)) = true := decide_eq_true hs6
      have yn : IntKind.i64.wrap (-(Q : Int)) = -(Q : Int) := IntWalk.i64_in _ (by omega)
      have g2 : decide (-(Q : Int) ≤ gp) = true := decide_eq_true hs5
      go_wp2_with fail
      refine (HA1.out _ HX1.out).mono ?_
      rintro e w91 ⟨rfl, hk⟩
      have HK91 : Hid (Keep0 w w91) := hid (Keep0.step (by repeat (with_reducible first | exact Keep.refl _ _ | exact HK90.out | apply Keep.alloc | apply Keep.drewN | apply Keep.drew)) hk)
      have THX1 := SnR.keep (show SnR _ _ _ _ _ _ from by repeat (with_reducible first | exact HX1.out | apply SnR.alloc | apply SnR.drew)) hk (fun _ _ h => h)
      have THX2 := SnR.keep (show SnR _ _ _ _ _ _ from by repeat (with_reducible first | exact HX2.out | apply SnR.alloc | apply SnR.drew)) hk (fun _ _ h => h)
      have THX3 := SnR.keep (show SnR _ _ _ _ _ _ from by repeat (with_reducible first | exact HX3.out | apply SnR.alloc | apply SnR.drew)) hk (fun _ _ h => h)
      clear hk HX1 HX2 HX3 HK90
      have HX1 := hid THX1
      clear THX1
      have HX2 := hid THX2
      clear THX2
      have HX3 := hid THX3
      clear THX3
      go_wp2_with fail
      refine (HA2.out _ HX2.out).mono ?_
      rintro e w92 ⟨rfl, hk⟩
      have HK92 : Hid (Keep0 w w92) := hid (Keep0.step (by repeat (with_reducible first | exact Keep.refl _ _ | exact HK91.out | apply Keep.alloc | apply Keep.drewN | apply Keep.drew)) hk)
      have THX1 := SnR.keep (show SnR _ _ _ _ _ _ from by repeat (with_reducible first | exact HX1.out | apply SnR.alloc | apply SnR.drew)) hk (fun _ _ h => h)
      have THX2 := SnR.keep (show SnR _ _ _ _ _ _ from by repeat (with_reducible first | exact HX2.out | apply SnR.alloc | apply SnR.drew)) hk (fun _ _ h => h)
      have THX3 := SnR.keep (show SnR _ _ _ _ _ _ from by repeat (with_reducible first | exact HX3.out | apply SnR.alloc | apply SnR.drew)) hk (fun _ _ h => h)
      clear hk HX1 HX2 HX3 HK91
      have HX1 := hid THX1
      clear THX1
      have HX2 := hid THX2
      clear THX2
      have HX3 := hid THX3
      clear THX3
      go_wp2_with fail
      refine (HA1.out _ HX1.out).mono ?_
      rintro e w93 ⟨rfl, hk⟩
      have HK93 : Hid (Keep0 w w93) := hid (Keep0.step (by repeat (with_reducible first | exact Keep.refl _ _ | exact HK92.out | apply Keep.alloc | apply Keep.drewN | apply Keep.drew)) hk)
      have THX1 := SnR.keep (show SnR _ _ _ _ _ _ from by repeat (with_reducible first | exact HX1.out | apply SnR.alloc | apply SnR.drew)) hk (fun _ _ h => h)
      have THX2 := SnR.keep (show SnR _ _ _ _ _ _ from by repeat (with_reducible first | exact HX2.out | apply SnR.alloc | apply SnR.drew)) hk (fun _ _ h => h)
      have THX3 := SnR.keep (show SnR _ _ _ _ _ _ from by repeat (with_reducible first | exact HX3.out | apply SnR.alloc | apply SnR.drew)) hk (fun _ _ h => h)
      clear hk HX1 HX2 HX3 HK92
      have HX1 := hid THX1
      clear THX1
      have HX2 := hid THX2
      clear THX2
      have HX3 := hid THX3
      clear THX3
      go_wp2_with fail
      refine (HA3.out _ HX3.out).mono ?_
      rintro e w94 ⟨rfl, hk⟩
      have HK94 : Hid (Keep0 w w94) := hid (Keep0.step (by repeat (with_reducible first | exact Keep.refl _ _ | exact HK93.out | apply Keep.alloc | apply Keep.drewN | apply Keep.drew)) hk)
      have THX1 := SnR.keep (show SnR _ _ _ _ _ _ from by repeat (with_reducible first | exact HX1.out | apply SnR.alloc | apply SnR.drew)) hk (fun _ _ h => h)
      have THX2 := SnR.keep (show SnR _ _ _ _ _ _ from by repeat (with_reducible first | exact HX2.out | apply SnR.alloc | apply SnR.drew)) hk (fun _ _ h => h)
      have THX3 := SnR.keep (show SnR _ _ _ _ _ _ from by repeat (with_reducible first | exact HX3.out | apply SnR.alloc | apply SnR.drew)) hk (fun _ _ h => h)
      clear hk HX1 HX2 HX3 HK93
      have HX1 := hid THX1
      clear THX1
      have HX2 := hid THX2
      clear THX2
      have HX3 := hid THX3
      clear THX3
      go_wp2_with fail
      refine (HA1.out _ HX1.out).mono ?_
      rintro e w95 ⟨rfl, hk⟩
      have HK95 : Hid (Keep0 w w95) := hid (Keep0.step (by repeat (with_reducible first | exact Keep.refl _ _ | exact HK94.out | apply Keep.alloc | apply Keep.drewN | apply Keep.drew)) hk)
      have THX1 := SnR.keep (show SnR _ _ _ _ _ _ from by repeat (with_reducible first | exact HX1.out | apply SnR.alloc | apply SnR.drew)) hk (fun _ _ h => h)
      have THX2 := SnR.keep (show SnR _ _ _ _ _ _ from by repeat (with_reducible first | exact HX2.out | apply SnR.alloc | apply SnR.drew)) hk (fun _ _ h => h)
      have THX3 := SnR.keep (show SnR _ _ _ _ _ _ from by repeat (with_reducible first | exact HX3.out | apply SnR.alloc | apply SnR.drew)) hk (fun _ _ h => h)
      clear hk HX1 HX2 HX3 HK94
      have HX1 := hid THX1
      clear THX1
      have HX2 := hid THX2
      clear THX2
      have HX3 := hid THX3
      clear THX3
      go_wp2_with fail
      go_ret
      exact ⟨rfl, HK95.out⟩
end Go.Proofs.Ytlkniogapdhcpaa
