/- AddEnd: behind its end a machine does nothing more; a machine of 0 adds nothing. -/
import Derived.Test.YtchlmaphaeoplaaHeadSix
import Derived.Test.YtchlmaphaeoplaaLawSixE
import Derived.Test.YtchlmaphaeoplaaRowSix
import Derived.Test.YtchlmaphaeoplaaLog
namespace Go.Proofs.Ytchlmaphaeoplaa
open Go.RowKit
set_option linter.unusedVariables false
set_option linter.unusedSimpArgs false
set_option maxRecDepth 100000
set_option maxHeartbeats 4000000 in
theorem addEnd_walk {w : World} {v0 : Value} (hc : CounterIn w v0) (d : Int) (hd : (Lit.int .i32 d).wf = true) (more : Int) (hmo : (Lit.int .u8 more).wf = true) : Calls Try.prog 8 #[v0, .int .i32 d, .int .u8 more] w (Ret (.bool true) w) := by
  have hd := bounds_i32 hd
  have hmo := bounds_u8 hmo
  obtain ⟨ba, sr, ga, gl, li, VA, V, vc, UA, U, uc, rfl, h0, h1, h2, h3, h4, hV, hv1, hvb, hU, hu1, hub⟩ := hc
  obtain ⟨b, hb⟩ : ∃ b : Nat, (b : Int) = ba % 8 := ⟨(ba % 8).toNat, by omega⟩
  have hz1 := sz4_bd sr
  have hz2 := sz4_bd li
  obtain ⟨s, hs⟩ : ∃ s : Nat, (s : Int) = sz4 sr := ⟨(sz4 sr).toNat, by omega⟩
  obtain ⟨g, hg⟩ : ∃ g : Nat, (g : Int) = ga % 40 + 1 := ⟨(ga % 40 + 1).toNat, by omega⟩
  obtain ⟨l, hl⟩ : ∃ l : Nat, (l : Int) = min (sz4 li) (sz4 sr) := ⟨(min (sz4 li) (sz4 sr)).toNat, by omega⟩
  have HP2 := hid (show p2 (s : Int) ∧ p2 (l : Int) ∧ (l : Int) ≤ s from ⟨by rw [hs]; exact sz4_p2 _, by rw [hl]; exact (p2_min (sz4_p2 _) (sz4_p2 _)).1, by rw [hl, hs]; exact (p2_min (sz4_p2 _) (sz4_p2 _)).2⟩)
  have hbb : b ≤ 7 := by omega
  have hss : 1 ≤ s ∧ s ≤ 8 := by omega
  have hgg : 1 ≤ g ∧ g ≤ 40 := by omega
  have hll : 1 ≤ l ∧ l ≤ 8 := by omega
  have HSZ := hid (fun w' => law6_Size ba sr ga gl li VA V.length vc UA U.length uc w' h0 h1 h2 h4)
  rw [← hl, ← hb, ← hs, ← hg] at HSZ
  have HWO := hid (fun (w' : World) (hk : Keep0 w w') hv hu => law6_Words ba sr ga gl li VA V vc UA U uc w' b s g l h0 h1 h2 h4 h3 (hV.keep hk) (hU.keep hk) hv hu hvb hub hb hs hg hl)
  skip
  have HK0 : Hid (Keep0 w (w.alloc (.cells #[.int .u8 ba, .int .u8 sr, .int .u16 ga, .int .i32 gl, .int .u8 li, .slice VA V.length vc, .slice UA U.length uc] 26))) := hid ((Keep.refl _ _).alloc _)
  clear hV hU hv1 hu1 hvb hub h0 h1 h2 h4 hb hs hg hl hz1 hz2
  go_enter Try.func8, Try.ntmps8
  go_wp2_with fail
  have HB : Hid (Blk (w.alloc (.cells #[.int .u8 ba, .int .u8 sr, .int .u16 ga, .int .i32 gl, .int .u8 li, .slice VA V.length vc, .slice UA U.length uc] 26)) w.heap.size 26 [.int .u8 ba, .int .u8 sr, .int .u16 ga, .int .i32 gl, .int .u8 li, .slice VA V.length vc, .slice UA U.length uc]) := hid (Blk.made rfl rfl)
  have qHB := HB.out.k7
  refine (law6_head _).mono ?_
  rintro e w1 ⟨rfl, hk⟩
  have HK1 : Hid (Keep0 w w1) := hid (Keep0.step (by repeat (with_reducible first | exact Keep.refl _ _ | exact HK0.out | apply Keep.alloc | apply Keep.drewN | apply Keep.drew)) hk)
  have THB := hk.blk (show Blk _ _ _ _ from by repeat (with_reducible first | exact HB.out | apply Blk.alloc | apply Blk.drewN | apply Blk.drew)) (fun h => h)
  clear hk qHB HB HK0
  have HB := hid THB
  clear THB
  have qHB := HB.out.k7
  by_cases hvl : 20 < V.length
  · go_wp2_with fail
    go_ret
    exact ⟨rfl, HK1.out⟩
  by_cases hul : 20 < U.length
  · go_wp2_with fail
    go_ret
    exact ⟨rfl, HK1.out⟩
  go_wp2_with fail
  refine (HSZ.out _).mono ?_
  rintro e w2 ⟨rfl, hk⟩
  have HK2 : Hid (Keep0 w w2) := hid (Keep0.step (by repeat (with_reducible first | exact Keep.refl _ _ | exact HK1.out | apply Keep.alloc | apply Keep.drewN | apply Keep.drew)) hk)
  have THB := hk.blk (show Blk _ _ _ _ from by repeat (with_reducible first | exact HB.out | apply Blk.alloc | apply Blk.drewN | apply Blk.drew)) (fun h => h)
  clear hk qHB HB HK1
  have HB := hid THB
  clear THB
  have qHB := HB.out.k7
  clear HSZ
  go_wp2_with fail
  refine (HWO.out _ (by repeat (with_reducible first | exact Keep.refl _ _ | exact HK2.out | apply Keep.alloc | apply Keep.drewN | apply Keep.drew)) (by omega) (by omega)).mono ?_
  rintro e w3 ⟨wg, rfl, hwg, hk, hwge⟩
  generalize hN : b + 4 + s + 3 = N at *
  have HWF := hid (wf6 b s g gl l V U hgg)
  generalize words6 b g (zero6 b s gl l) V U s = WW at *
  have HN := hid hN
  have hln : WW.length = N := HWF.out.ln.trans hN
  have hN1 : b + 4 + s ≤ N := by omega
  have hN2 : N ≤ 22 := by omega
  clear hN
  have HWG := hid (Blk.ints hwg)
  have hwz : w.heap.size ≤ wg := Nat.le_trans HK2.out.size (by simpa using hwge)
  have HK3 : Hid (Keep0 w w3) := hid (Keep0.step (by repeat (with_reducible first | exact Keep.refl _ _ | exact HK2.out | apply Keep.alloc | apply Keep.drewN | apply Keep.drew)) hk)
  have THB := hk.blk (show Blk _ _ _ _ from by repeat (with_reducible first | exact HB.out | apply Blk.alloc | apply Blk.drewN | apply Blk.drew)) (fun h => h)
  clear hk qHB HB HK2
  have HB := hid THB
  clear THB
  have qHB := HB.out.k7
  clear hwg HWO hvl hul hwge
  clear qHB HB
  go_wp2_with fail
  refine (law6_laid w.heap.size _ wg _ N WW HWG.out hln.symm (by omega) (by have := HK3.out.size; omega)).mono ?_
  rintro e w4 ⟨m, a, lv, rfl, hm, hk, hzm, hza⟩
  have hzm' : w.heap.size ≤ m := Nat.le_trans HK3.out.size hzm
  have hza' : w.heap.size ≤ a := Nat.le_trans HK3.out.size hza
  have hwgm : wg ≠ a := by have := HWG.out.lt; omega
  have HK4 : Hid (Keep0 w w4) := hid (Keep0.step (by repeat (with_reducible first | exact Keep.refl _ _ | exact HK3.out | apply Keep.alloc | apply Keep.drewN | apply Keep.drew)) hk)
  have THWG := hk.ints (show Ints _ _ _ from by repeat (with_reducible first | exact HWG.out | apply Ints.alloc | apply Ints.drewN | apply Ints.drew)) (fun h => h)
  clear hk HWG HK3
  have HWG := hid THWG
  clear THWG
  have HM := hid hm
  clear hm hzm hza
  clear HWG
  go_wp2_with fail
  refine (add_Sum b s HM.out (by omega) (by omega) (by omega)).mono ?_
  rintro e w5 ⟨rfl, hk⟩
  have HK5 : Hid (Keep0 w w5) := hid (Keep0.step (by repeat (with_reducible first | exact Keep.refl _ _ | exact HK4.out | apply Keep.alloc | apply Keep.drewN | apply Keep.drew)) hk)
  have THM := MemAt.same (by repeat (with_reducible first | exact HM.out | apply MemAt.alloc | apply MemAt.drew)) hk
  clear hk HM HK4
  have HM := hid THM
  clear THM
  go_wp2_with fail
  refine (law6_amount d _ hd).mono ?_
  rintro e w0 ⟨rfl, rfl⟩
  go_wp2_with fail
  have hdb := tmod_bd d 1048576 (by omega)
  generalize hdd : d.tmod 1048576 = dd at *
  have HDD := hid hdd
  clear hdd
  obtain ⟨x7, hx7⟩ : ∃ n : Nat, (n : Int) = dBegin (5 : Nat) := ⟨(dBegin (5 : Nat)).toNat, Int.toNat_of_nonneg (dBegin_bd _).1⟩
  have hbx7 : (x7 : Int) < 4294967296 := by rw [hx7]; exact (dBegin_bd _).2
  refine (add_New b s g (dd) 5 _ (by omega) x7 hx7).mono ?_
  rintro e w6 ⟨x, rfl, hx, hk, hbx⟩
  have hzx : w.heap.size ≤ x := Nat.le_trans HK5.out.size hx
  have hlx := hx
  have HK6 : Hid (Keep0 w w6) := hid (Keep0.step (by repeat (with_reducible first | exact Keep.refl _ _ | exact HK5.out | apply Keep.alloc | apply Keep.drewN | apply Keep.drew)) hk)
  have THM := MemAt.same (by repeat (with_reducible first | exact HM.out | apply MemAt.alloc | apply MemAt.drew)) hk
  clear hk HM HK5
  have HM := hid THM
  clear THM
  clear hx hx7
  have HX := hid hbx
  clear hbx
  have hgl : -4611686018427387904 ≤ rd WW b ∧ rd WW b ≤ 4611686018427387904 := by rw [HWF.out.gl]; omega
  have HAI := hid (AInv.start (b := b) (s := s) (g := g) (d := dd) (W := WW) (L := []) (x := (x7 : Int)) (by omega) (by omega) HP2.out.1 (by omega) (by omega) (by rw [HWF.out.lv]; exact HP2.out.2) (by omega))
  go_wp2_with fail
  obtain ⟨t2, n1, hpl, h9, hLl, hal⟩ := alone (b := b) (s := s) (g := g) (d := dd) (L := []) HAI.out hgl (WW).length 44
  have hp := play_add (B := w.heap.size) (w := w6) (m := m) (a := a) (x := x) (lv := lv) (b := b) (s := s) (g := g) (d := dd) ⟨WW, [], 0, (x7 : Int), 0, 0, 0, 0⟩ [] none 0 0 0 50 HM.out HX.out HAI.out (by simp) (by omega) (by simp) (by intro p hp; cases hp) (fun h => by simp at h) (fun i h => by simp at h)
  rw [show (AS.mk WW [] 0 (x7 : Int) 0 0 0 0).W.length = (WW).length from rfl, show (50 : Nat) = 44 + 6 from rfl, hpl] at hp
  refine hp.mono ?_
  rintro e w7 ⟨rfl, ⟨kk, lv', hm, ho, hx, _⟩, hk⟩
  have HAL := hid hal
  have HLL := hid hLl
  have H9 := hid h9
  clear hp hpl hal hLl h9 HAI
  have HK7 : Hid (Keep0 w w7) := hid (adplay_far HM.out hzx hk w HK6.out (Nat.le_refl _))
  clear HM HX HK6 hk 
  obtain ⟨lv, hlv⟩ : ∃ v, v = lv' := ⟨_, rfl⟩
  subst hlv
  have HM := hid hm
  have HX := hid hx
  clear hm hx ho
  have HAL1 := HAL
  have hll1 : t2.L.length ≤ 6 := by have h1 := HLL.out; rcases HAL.out.n36 with ⟨e, _⟩ | ⟨e, _⟩ <;> simp at h1 <;> omega
  have hul : t2.W.length = N := by rw [HAL.out.ln, hln]
  have hx9 : Blk w7 x 83 [i64 (b : Int), i64 (s : Int), i64 (g : Int), i64 dd, i64 t2.x, i64 t2.lv, i64 (t2.sp : Int), i64 t2.w, i64 t2.v, .nilFunc] := by have h := HX.out; unfold acs at h; rw [H9.out] at h; exact h
  generalize t2.x = c4 at *
  generalize t2.lv = c5 at *
  generalize ((t2.sp : Nat) : Int) = c6 at *
  generalize t2.w = c7 at *
  generalize t2.v = c8 at *
  generalize t2.W = UU at *
  generalize t2.L = LL at *
  have HX9 := hid hx9
  clear hx9 HX HLL HAL H9
  go_wp2_with fail
  refine (mem_Log HM.out (by omega)).mono ?_
  rintro e w8 ⟨la, lc, rfl, _, hk⟩
  have HK8 : Hid (Keep0 w w8) := hid (Keep0.step (by repeat (with_reducible first | exact Keep.refl _ _ | exact HK7.out | apply Keep.alloc | apply Keep.drewN | apply Keep.drew)) hk)
  have THM := MemAt.same (by repeat (with_reducible first | exact HM.out | apply MemAt.alloc | apply MemAt.drew)) hk
  have THX9 := hk.blk (show Blk _ _ _ _ from by repeat (with_reducible first | exact HX9.out | apply Blk.alloc | apply Blk.drewN | apply Blk.drew)) (fun h => h)
  clear hk HM HX9 HK7
  have HM := hid THM
  clear THM
  have HX9 := hid THX9
  clear THX9
  go_wp2_with fail
  have hq0 : 0 ≤ more % 10 := Int.emod_nonneg _ (by omega)
  have hq1 : more % 10 < 10 := Int.emod_lt_of_pos _ (by omega)
  obtain ⟨mr, hmr⟩ := Int.eq_ofNat_of_zero_le hq0
  have HMR := hid hmr
  have hmr9 : mr < 10 := by omega
  have ym : more.tmod 10 = (mr : Int) := by rw [Int.tmod_eq_emod_of_nonneg hmo.1]; exact hmr
  clear hmr hq0 hq1
  go_loopw [18] (fun v wr => ∃ i : Nat, i ≤ mr ∧ v = .int .i64 i ∧ Keep0 w8 wr) (fun v _ => mr - (intOf v).toNat)
  case atStart => exact ⟨0, Nat.zero_le _, rfl, Keep.refl _ _⟩
  case round =>
    obtain ⟨i, hi, rfl, hk⟩ := hrel
    have HKR := hid hk
    have HKW : Hid (Keep0 w wr) := hid (HK8.out.trans hk (fun _ _ h => h))
    have HMR2 := hid (HM.out.same hk)
    have HXR := hid (hk.blk HX9.out (fun h => h))
    clear hk
    by_cases hlt : i < mr
    · clear HM HX9
      go_wp2_with fail
      refine (add_Step_end (m := m) HXR.out).mono ?_
      rintro e w0 ⟨rfl, rfl⟩
      go_wp2_with fail
      go_roundw
      case rel => exact ⟨i + 1, by omega, by go_num, HKR.out⟩
      case measure => simp [intOf]; omega
    · obtain rfl : i = mr := by omega
      clear HM HX9 HXR HK8 HKR
      have HM := HMR2
      have HK8 := HKW
      clear HMR2 HKW
      go_wp2_with fail
      obtain ⟨y7, hy7⟩ : ∃ n : Nat, (n : Int) = dBegin (6 : Nat) := ⟨(dBegin (6 : Nat)).toNat, Int.toNat_of_nonneg (dBegin_bd _).1⟩
      have hby7 : (y7 : Int) < 4294967296 := by rw [hy7]; exact (dBegin_bd _).2
      refine (add_New b s g (0) 6 _ (by omega) y7 hy7).mono ?_
      rintro e w9 ⟨x2, rfl, hx, hk, hbx⟩
      have hzx2 : w.heap.size ≤ x2 := Nat.le_trans HK8.out.size hx
      have hlx2 := hx
      have HK9 : Hid (Keep0 w w9) := hid (Keep0.step (by repeat (with_reducible first | exact Keep.refl _ _ | exact HK8.out | apply Keep.alloc | apply Keep.drewN | apply Keep.drew)) hk)
      have THM := MemAt.same (by repeat (with_reducible first | exact HM.out | apply MemAt.alloc | apply MemAt.drew)) hk
      clear hk HM HK8
      have HM := hid THM
      clear THM
      clear hx hy7
      have HX := hid hbx
      clear hbx
      have hgl2 : -4611686018427387904 ≤ rd UU b ∧ rd UU b ≤ 4611686018427387904 := by have h1 := HWF.out.gl; have h2 := HAL1.out.gl; omega
      clear hgl
      have hgl := hgl2
      clear hgl2
      have HAI := hid (AInv.start (b := b) (s := s) (g := g) (d := 0) (W := UU) (L := LL) (x := (y7 : Int)) (by omega) (by omega) HP2.out.1 (by omega) (by omega) (by rw [HAL1.out.lv, HWF.out.lv]; exact HP2.out.2) (by omega))
      go_wp2_with fail
      obtain ⟨t3, n2, hpl, h9, hLl, hal⟩ := alone (b := b) (s := s) (g := g) (d := 0) (L := LL) HAI.out hgl (UU).length 44
      have hp := play_add (B := w.heap.size) (w := w9) (m := m) (a := a) (x := x2) (lv := lv) (b := b) (s := s) (g := g) (d := 0) ⟨UU, LL, 0, (y7 : Int), 0, 0, 0, 0⟩ [] none 0 0 0 50 HM.out HX.out HAI.out (by simp; omega) (by omega) (by simp) (by intro p hp; cases hp) (fun h => by simp at h) (fun i h => by simp at h)
      rw [show (AS.mk UU LL 0 (y7 : Int) 0 0 0 0).W.length = (UU).length from rfl, show (50 : Nat) = 44 + 6 from rfl, hpl] at hp
      refine hp.mono ?_
      rintro e w10 ⟨rfl, ⟨kk, lv', hm, ho, hx, _⟩, hk⟩
      have HAL := hid hal
      have HLL := hid hLl
      have H9 := hid h9
      clear hp hpl hal hLl h9 HAI
      have HK10 : Hid (Keep0 w w10) := hid (adplay_far HM.out hzx2 hk w HK9.out (Nat.le_refl _))
      clear HM HX HK9 hk 
      obtain ⟨lv, hlv⟩ : ∃ v, v = lv' := ⟨_, rfl⟩
      subst hlv
      have HM := hid hm
      have HX := hid hx
      clear hm hx ho
      obtain rfl : n2 = 3 := HAL.out.d0 (HAL1.out.gate HWF.out.gate) rfl
      have hvl : t3.W.length = N := by rw [HAL.out.ln, hul]
      have hl3 := HLL.out
      have hgw := HWF.out.gl
      have hg1 := HAL1.out.gl
      have hg2 := HAL.out.gl
      have hsb := sP_bd WW b s
      have HSU := hid (show sumN t3.W b s = sumN WW b s + dd from by rw [sumN_eq (by omega) s (by omega), sumN_eq (by omega) s (by omega), HAL.out.sum, HAL1.out.sum]; omega)
      have y9 : IntKind.i64.wrap (sumN WW b s + dd) = sumN WW b s + dd := (show IntKind.i64.wrap (sumN WW b s + dd) = wrap64 (sumN WW b s + dd) from by rw [IntKind.wrap_i64, wrap64]).trans (by rw [sumN_eq (by omega) s (by omega), wrap64_in (by omega)])
      have hl4 : ((t3.L.length : Nat) : Int) = (LL.length : Int) + 3 := by omega
      have HDL := hid HDD.out
      clear hgw hg1 hg2 hsb hl3 HAL HLL H9 HX
      generalize t3.W = TW at *
      generalize t3.L = TL at *
      generalize sumN WW b s = s0 at *
      generalize hsq : LL.length = n0 at *
      clear hsq
      go_wp2_with fail
      refine (mem_Log HM.out (by omega)).mono ?_
      rintro e w11 ⟨la2, lc2, rfl, _, hk⟩
      have HK11 : Hid (Keep0 w w11) := hid (Keep0.step (by repeat (with_reducible first | exact Keep.refl _ _ | exact HK10.out | apply Keep.alloc | apply Keep.drewN | apply Keep.drew)) hk)
      have THM := MemAt.same (by repeat (with_reducible first | exact HM.out | apply MemAt.alloc | apply MemAt.drew)) hk
      clear hk HM HK10
      have HM := hid THM
      clear THM
      have y10 : IntKind.i64.wrap ((n0 : Int) + 3) = (n0 : Int) + 3 := IntWalk.i64_in _ (by omega)
      go_wp2_with fail
      refine (show Calls Try.prog 13 #[ptr m, i64 (b : Int), i64 (s : Int)] w11 (Ret (i64 (s0 + dd)) w11) from by rw [← HSU.out]; exact add_Sum b s HM.out (by omega) (by omega) (by omega)).mono ?_
      rintro e w12 ⟨rfl, hk⟩
      have HK12 : Hid (Keep0 w w12) := hid (Keep0.step (by repeat (with_reducible first | exact Keep.refl _ _ | exact HK11.out | apply Keep.alloc | apply Keep.drewN | apply Keep.drew)) hk)
      have THM := MemAt.same (by repeat (with_reducible first | exact HM.out | apply MemAt.alloc | apply MemAt.drew)) hk
      clear hk HM HK11
      have HM := hid THM
      clear THM
      go_wp2_with fail
      refine (show Calls Try.prog 16 #[.int .i32 d] w12 (fun e w' => e = .returned (i64 dd) ∧ w12 = w') from by rw [← HDL.out]; exact law6_amount d _ hd).mono ?_
      rintro e w0 ⟨rfl, rfl⟩
      go_wp2_with fail
      refine (add_Ans x _).mono ?_
      rintro e w13 ⟨rfl, hk⟩
      have HK13 : Hid (Keep0 w w13) := hid (Keep0.step (by repeat (with_reducible first | exact Keep.refl _ _ | exact HK12.out | apply Keep.alloc | apply Keep.drewN | apply Keep.drew)) hk)
      have THM := MemAt.same (by repeat (with_reducible first | exact HM.out | apply MemAt.alloc | apply MemAt.drew)) hk
      clear hk HM HK12
      have HM := hid THM
      clear THM
      go_wp2_with fail
      refine (add_Ans x2 _).mono ?_
      rintro e w14 ⟨rfl, hk⟩
      have HK14 : Hid (Keep0 w w14) := hid (Keep0.step (by repeat (with_reducible first | exact Keep.refl _ _ | exact HK13.out | apply Keep.alloc | apply Keep.drewN | apply Keep.drew)) hk)
      have THM := MemAt.same (by repeat (with_reducible first | exact HM.out | apply MemAt.alloc | apply MemAt.drew)) hk
      clear hk HM HK13
      have HM := hid THM
      clear THM
      go_wp2_with fail
      go_ret
      exact ⟨rfl, HK14.out⟩
end Go.Proofs.Ytchlmaphaeoplaa
