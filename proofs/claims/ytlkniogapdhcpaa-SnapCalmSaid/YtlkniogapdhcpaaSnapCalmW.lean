/- SnapCalm: if nothing is done meanwhile, a count is exact at once, and is the sum, if all that was begun is done; else no try is exact, and the global word is told. -/
import Derived.Test.YtlkniogapdhcpaaSnapE
import Derived.Test.YtlkniogapdhcpaaLawSixE
import Derived.Test.YtlkniogapdhcpaaRowSix
namespace Go.Proofs.Ytlkniogapdhcpaa
open Go.RowKit
set_option linter.unusedVariables false
set_option linter.unusedSimpArgs false
set_option maxRecDepth 100000
@[go_sem] theorem field_ans7_1 (x0 x1 x2 x3 : Value) (w : World) : (Instr.field 45 (.agg #[x0, x1, x2, x3]) 1).run Try.prog w = .ok x1 w := by kernel_rfl
@[go_sem] theorem field_ans7_2 (x0 x1 x2 x3 : Value) (w : World) : (Instr.field 45 (.agg #[x0, x1, x2, x3]) 2).run Try.prog w = .ok x2 w := by kernel_rfl
theorem Ints.keep0 {w w' : World} {g : Nat} {W : List Int} (h : Ints w g W) (hk : Keep0 w w') : Ints w' g W := hk.ints h (fun h => h)
set_option maxHeartbeats 4000000 in
theorem snapCalm_walk {w : World} {v0 : Value} (hc : CounterIn w v0) (retry : Int) (hretry : (Lit.int .u8 retry).wf = true) (opn : Int) (hopn : (Lit.int .u8 opn).wf = true) : Calls Try.prog 6 #[v0, .int .u8 retry, .int .u8 opn] w (Ret (.bool true) w) := by
  have hretry := bounds_u8 hretry
  have hopn := bounds_u8 hopn
  obtain ⟨ba, sr, ga, gl, li, VA, V, vc, UA, U, uc, rfl, h0, h1, h2, h3, h4, hV, hv1, hvb, hU, hu1, hub⟩ := hc
  obtain ⟨b, hb⟩ : ∃ b : Nat, (b : Int) = ba % 8 := ⟨(ba % 8).toNat, by omega⟩
  have hz1 := sz4_bd sr
  have hz2 := sz4_bd li
  obtain ⟨s, hs⟩ : ∃ s : Nat, (s : Int) = sz4 sr := ⟨(sz4 sr).toNat, by omega⟩
  obtain ⟨g, hg⟩ : ∃ g : Nat, (g : Int) = ga % 40 + 1 := ⟨(ga % 40 + 1).toNat, by omega⟩
  obtain ⟨l, hl⟩ : ∃ l : Nat, (l : Int) = min (sz4 li) (sz4 sr) := ⟨(min (sz4 li) (sz4 sr)).toNat, by omega⟩
  have HP2 := hid (show p2 (s : Int) ∧ p2 (l : Int) ∧ (l : Int) ≤ s from ⟨by rw [hs]; exact sz4_p2 _, by rw [hl]; exact (p2_min (sz4_p2 _) (sz4_p2 _)).1, by rw [hl, hs]; exact (p2_min (sz4_p2 _) (sz4_p2 _)).2⟩)
  have hbb : b ≤ 7 := by omega
  have hss : 1 ≤ s ∧ s ≤ 8 := by omega
  have hgg : 1 ≤ g ∧ g ≤ 40 := by omega
  have hll : 1 ≤ l ∧ l ≤ 8 := by omega
  have HSZ := hid (fun w' => law6_Size ba sr ga gl li VA V.length vc UA U.length uc w' h0 h1 h2 h4)
  rw [← hl, ← hb, ← hs, ← hg] at HSZ
  have HWO := hid (fun (w' : World) (hk : Keep0 w w') hv hu => law6_Words ba sr ga gl li VA V vc UA U uc w' b s g l h0 h1 h2 h4 h3 (hV.keep hk) (hU.keep hk) hv hu hvb hub hb hs hg hl)
  skip
  have HK0 : Hid (Keep0 w (w.alloc (.cells #[.int .u8 ba, .int .u8 sr, .int .u16 ga, .int .i32 gl, .int .u8 li, .slice VA V.length vc, .slice UA U.length uc] 26))) := hid ((Keep.refl _ _).alloc _)
  clear hV hU hv1 hu1 hvb hub h0 h1 h2 h4 hb hs hg hl hz1 hz2
  have hr0 : 0 ≤ retry % 8 := Int.emod_nonneg _ (by omega)
  have hr1 : retry % 8 < 8 := Int.emod_lt_of_pos _ (by omega)
  obtain ⟨r, hrr⟩ : ∃ r : Nat, (r : Int) = retry % 8 + 1 := ⟨(retry % 8 + 1).toNat, by omega⟩
  have hr8 : 1 ≤ r ∧ r ≤ 8 := by omega
  have yr1 : IntKind.i64.wrap (retry % 8 + 1) = (r : Int) := by rw [hrr]; exact IntWalk.i64_in _ (by omega)
  have yr2 : retry.tmod 8 = retry % 8 := Int.tmod_eq_emod_of_nonneg hretry.1
  clear hrr hr0 hr1
  have hp0 : 0 ≤ opn % 3 := Int.emod_nonneg _ (by omega)
  have hp1 : opn % 3 < 3 := Int.emod_lt_of_pos _ (by omega)
  obtain ⟨op, hop⟩ := Int.eq_ofNat_of_zero_le hp0
  have yo : opn.tmod 3 = (op : Int) := by rw [← hop]; exact Int.tmod_eq_emod_of_nonneg hopn.1
  have hop3 : op < 3 := by omega
  clear hp0 hp1 hop
  go_enter Try.func6, Try.ntmps6
  go_wp2_with fail
  have HB : Hid (Blk (w.alloc (.cells #[.int .u8 ba, .int .u8 sr, .int .u16 ga, .int .i32 gl, .int .u8 li, .slice VA V.length vc, .slice UA U.length uc] 26)) w.heap.size 26 [.int .u8 ba, .int .u8 sr, .int .u16 ga, .int .i32 gl, .int .u8 li, .slice VA V.length vc, .slice UA U.length uc]) := hid (Blk.made rfl rfl)
  have qHB := HB.out.k7
  refine (law7_head _).mono ?_
  rintro e w1 ⟨rfl, hk⟩
  have HK1 : Hid (Keep0 w w1) := hid (Keep0.step (by repeat (with_reducible first | exact Keep.refl _ _ | exact HK0.out | apply Keep.alloc | apply Keep.drewN | apply Keep.drew)) hk)
  have THB := hk.blk (show Blk _ _ _ _ from by repeat (with_reducible first | exact HB.out | apply Blk.alloc | apply Blk.drewN | apply Blk.drew)) (fun h => h)
  clear hk qHB HB HK0
  have HB := hid THB
  clear THB
  have qHB := HB.out.k7
  by_cases hgd0 : 20 < V.length
  · go_wp2_with fail
    go_ret
    exact ⟨rfl, HK1.out⟩
  by_cases hgd1 : 20 < U.length
  · go_wp2_with fail
    go_ret
    exact ⟨rfl, HK1.out⟩
  go_wp2_with fail
  refine (HSZ.out _).mono ?_
  rintro e w2 ⟨rfl, hk⟩
  have HK2 : Hid (Keep0 w w2) := hid (Keep0.step (by repeat (with_reducible first | exact Keep.refl _ _ | exact HK1.out | apply Keep.alloc | apply Keep.drewN | apply Keep.drew)) hk)
  have THB := hk.blk (show Blk _ _ _ _ from by repeat (with_reducible first | exact HB.out | apply Blk.alloc | apply Blk.drewN | apply Blk.drew)) (fun h => h)
  clear hk qHB HB HK1
  have HB := hid THB
  clear THB
  have qHB := HB.out.k7
  clear HSZ
  go_wp2_with fail
  refine (HWO.out _ (by repeat (with_reducible first | exact Keep.refl _ _ | exact HK2.out | apply Keep.alloc | apply Keep.drewN | apply Keep.drew)) (by omega) (by omega)).mono ?_
  rintro e w3 ⟨wg, rfl, hwg, hk, hwge⟩
  generalize hN : b + 4 + s + 3 = N at *
  have HWF := hid (wf6 b s g gl l V U hgg)
  generalize words6 b g (zero6 b s gl l) V U s = WW at *
  have HN := hid hN
  have hln : WW.length = N := HWF.out.ln.trans hN
  have hN1 : b + 4 + s ≤ N := by omega
  have hN2 : N ≤ 22 := by omega
  clear hN
  have HWB := hid hwg
  have HWG := hid (Blk.ints hwg)
  have hwz : w.heap.size ≤ wg := Nat.le_trans HK2.out.size (by simpa using hwge)
  have HK3 : Hid (Keep0 w w3) := hid (Keep0.step (by repeat (with_reducible first | exact Keep.refl _ _ | exact HK2.out | apply Keep.alloc | apply Keep.drewN | apply Keep.drew)) hk)
  have THB := hk.blk (show Blk _ _ _ _ from by repeat (with_reducible first | exact HB.out | apply Blk.alloc | apply Blk.drewN | apply Blk.drew)) (fun h => h)
  clear hk qHB HB HK2
  have HB := hid THB
  clear THB
  have qHB := HB.out.k7
  clear hwg HWO hwge
  clear qHB HB
  have c1 := HWG.out.cell (b + 2) (by omega)
  rw [HWF.out.dn] at c1
  have c2 := HWG.out.cell (b + 1) (by omega)
  have f1 := HWB.out.frozen
  have z1 := HWB.out.lt
  have y1 : IntKind.i64.wrap ((b : Int) + 1) = ((b + 1 : Nat) : Int) := IntWalk.i64_in _ (by omega)
  have y2 : IntKind.i64.wrap ((b : Int) + 2) = ((b + 2 : Nat) : Int) := IntWalk.i64_in _ (by omega)
  have y3 : IntKind.i64.wrap (op : Int) = (op : Int) := IntWalk.i64_in _ (by omega)
  go_wp2_with fail
  obtain ⟨w4, hw9⟩ : ∃ v, v = w3.setCell ⟨wg, b + 1, none⟩ (i64 (op : Int)) := ⟨_, rfl⟩
  rw [← hw9]
  have HG9 := hid (Blk.ints ((HWB.out.set (b + 1) (i64 (op : Int))).cast (ints_set _ _ _)))
  have HK4 : Hid (Keep0 w w4) := hid (by rw [hw9]; exact HK3.out.set _ _ (fun h => absurd h (by show ¬ wg < w.heap.size; omega)))
  rw [← hw9] at HG9
  have hr2 : rd (WW.set (b + 1) (op : Int)) (b + 2) = 0 := by rw [rd_set, if_neg (by omega)]; exact HWF.out.dn
  have hr1 : rd (WW.set (b + 1) (op : Int)) (b + 1) = (op : Int) := by rw [rd_set, if_pos ⟨rfl, by omega⟩]
  have hl9 : (WW.set (b + 1) (op : Int)).length = N := by rw [List.length_set]; exact hln
  clear c1 c2 f1 z1 hw9 HWG HWB HWF hln HK3
  generalize WW.set (b + 1) (op : Int) = W9 at *
  clear WW
  obtain ⟨WW, hww⟩ : ∃ v, v = W9 := ⟨_, rfl⟩
  subst hww
  have hln := hl9
  have HWG := hid HG9.out
  clear hl9 HG9
  go_wp2_with fail
  refine (law7_laid w.heap.size _ wg _ N WW HWG.out hln.symm (by omega) (by have := HK4.out.size; omega)).mono ?_
  rintro e w5 ⟨m, a, lv, rfl, hm, hk, hzm, hza⟩
  have hzm' : w.heap.size ≤ m := Nat.le_trans HK4.out.size hzm
  have hza' : w.heap.size ≤ a := Nat.le_trans HK4.out.size hza
  have hwgm : wg ≠ a := by have := HWG.out.lt; omega
  have HK5 : Hid (Keep0 w w5) := hid (Keep0.step (by repeat (with_reducible first | exact Keep.refl _ _ | exact HK4.out | apply Keep.alloc | apply Keep.drewN | apply Keep.drew)) hk)
  have THWG := hk.ints (show Ints _ _ _ from by repeat (with_reducible first | exact HWG.out | apply Ints.alloc | apply Ints.drewN | apply Ints.drew)) (fun h => h)
  clear hk HWG HK4
  have HWG := hid THWG
  clear THWG
  have HM := hid hm
  clear hm hzm hza
  go_wp2_with fail
  have hks := HK5.out.size
  refine (snap_Count b s ((r : Int)) _ (by omega) (by omega)).mono ?_
  rintro e w6 ⟨x, R, rfl, hk, hx, hr⟩
  have HRM := hid (new_mf HM.out hr)
  have hrz : ∀ k, R k → w.heap.size ≤ k := fun k h => Nat.le_trans hks (hr k h)
  have hrg : ¬ R wg := fun h => by have := hr wg h; have := HWG.out.lt; omega
  have HK6 : Hid (Keep0 w w6) := hid (Keep0.step (by repeat (with_reducible first | exact Keep.refl _ _ | exact HK5.out | apply Keep.alloc | apply Keep.drewN | apply Keep.drew)) hk)
  have THWG := hk.ints (show Ints _ _ _ from by repeat (with_reducible first | exact HWG.out | apply Ints.alloc | apply Ints.drewN | apply Ints.drew)) (fun h => h)
  have THM := MemAt.same (by repeat (with_reducible first | exact HM.out | apply MemAt.alloc | apply MemAt.drew)) hk
  clear hk HWG HM HK5
  have HWG := hid THWG
  clear THWG
  have HM := hid THM
  clear THM
  have HX := hid (hx (WW) ([]))
  clear hks hx hr
  go_wp2_with fail
  have hp := play_count (b := b) (s := s) (B := w.heap.size) (w := w6) (m := m) (a := a) (x := x) (lv := lv) (R := R) ⟨WW, [], (r : Int), [], 0, false, false⟩ [] none 0 0 0 (1000) (by omega) HM.out HX.out HRM.out (NInv.start (by show b + 4 + s ≤ WW.length; omega) (by omega) hss (by omega)) (by simp) (by omega) (by simp) (fun h => by simp at h) (fun i h => by simp at h)
  rw [show (⟨WW, [], (r : Int), [], 0, false, false⟩ : SN).W.length = WW.length from rfl] at hp
  have hrP : r * (4 + 2 * s) ≤ 8 * 20 := Nat.mul_le_mul hr8.2 (by omega)
  obtain ⟨pt, pn, hpe, hpw, hpa, hpb⟩ := calm7 WW b s r 1000 WW.length hss hr8.1 (by omega)
  rw [hpe] at hp
  simp only at hp
  clear hpe
  refine hp.mono ?_
  rintro e w7 ⟨rfl, ⟨kk, lv', R', hm, ho, hx, hlen, hlg, hin, _, hr1, hr2⟩, hk⟩
  have hrz' : ∀ k, R' k → w.heap.size ≤ k := fun k h => (hr1 k h).elim (hrz k) (fun h2 => Nat.le_trans HK6.out.size h2)
  have THWG := hk.ints HWG.out (nplay_no HM.out (ints_no7 HM.out HWG.out hwgm) hrg HWG.out.lt)
  have HK7 : Hid (Keep0 w w7) := hid (nplay_far HM.out hrz hk HK6.out rfl)
  have hrg' : ¬ R' wg := fun h => (hr1 wg h).elim hrg (fun h2 => by have := HWG.out.lt; omega)
  clear hp HM HX HK6 hk hrz HRM ho hr1 HWG
  obtain ⟨lv, hlv⟩ : ∃ v, v = lv' := ⟨_, rfl⟩
  subst hlv
  have HM := hid hm
  have HX := hid hx
  have HI := hid hin
  have HRM := hid hr2
  have hrz := hrz'
  have HLEN := hid hlen
  have hrg := hrg'
  clear hm hx hin hr2 hrz' hlen hlg
  have HWG := hid THWG
  clear THWG
  obtain ⟨R, hRR⟩ : ∃ v, v = R' := ⟨_, rfl⟩
  subst hRR
  have HA2 := hid hpa
  have HB2 := hid hpb
  have yu : IntKind.u8.wrap (op : Int) = (op : Int) := IntWalk.u8_in _ (by omega)
  clear hpa hpb
  by_cases hop0 : op = 0
  · subst hop0
    have hA := hid (HA2.out (by rw [hr1, hr2]; rfl))
    have yn := hA.out.1
    subst yn
    clear HA2 HB2
    have y4 : IntKind.i64.wrap (2 * (s : Int)) = 2 * (s : Int) := IntWalk.i64_in _ (by omega)
    have y5 : IntKind.i64.wrap (4 + 2 * (s : Int)) = 4 + 2 * (s : Int) := IntWalk.i64_in _ (by omega)
    have hans := count_Ans _ HX.out
    rw [hA.out.2.1, hA.out.2.2] at hans
    have HANS := hid hans
    clear hans
    go_wp2_with fail
    refine HANS.out.mono ?_
    rintro e wA ⟨rfl, hk⟩
    have HKA : Hid (Keep0 w wA) := hid (Keep0.step HK7.out hk)
    have hsum := add_Sum b s (HM.out.same hk) (by rw [hpw]; omega) (by rw [hpw]; omega) hss.1
    rw [hpw] at hsum
    clear hk
    go_wp2_with fail
    refine hsum.mono ?_
    rintro e wB ⟨rfl, hk⟩
    have HKB : Hid (Keep0 w wB) := hid (Keep0.step HKA.out hk)
    clear hk hsum
    go_wp2_with fail
    go_ret
    exact ⟨rfl, HKB.out⟩
  · have hB := hid (HB2.out (by rw [hr1, hr2]; omega))
    have yn := hB.out.1
    have g0 : ((op : Int) == 0) = false := by simpa using hop0
    obtain ⟨Q, hQ⟩ : ∃ Q, Q = r * (4 + 2 * s) := ⟨_, rfl⟩
    have y4 : IntKind.i64.wrap (2 * (s : Int)) = 2 * (s : Int) := IntWalk.i64_in _ (by omega)
    have y5 : IntKind.i64.wrap (4 + 2 * (s : Int)) = 4 + 2 * (s : Int) := IntWalk.i64_in _ (by omega)
    have y6 : IntKind.i64.wrap ((r : Int) * (4 + 2 * (s : Int))) = (Q : Int) := by
      rw [show (r : Int) * (4 + 2 * (s : Int)) = (Q : Int) from by rw [hQ]; push_cast; rfl]
      exact IntWalk.i64_in _ (by omega)
    rw [← hQ] at yn
    subst yn
    have hbb2 : b < N := by omega
    have HB2' := HB2
    clear HA2 hQ
    go_wp2_with fail
    apply wp_region_text (WI := fun S wx => Keep0 w7 wx) (by kernel_rfl) (by kernel_rfl)
    case hob =>
      apply Oblig.cons
      case h =>
        intro S w1 hwi hSi hd hcl
        apply StepOk.intro
        intro K hK
        have d1 := (HWG.out.keep0 hwi).cell b (by omega)
        go_simp
        apply hK
        · rfl
        · conv => (lhs; whnf)
        · exact hwi
      simp only [put_lit, put_none]
      try dsimp only [List.set_cons_succ, List.set_cons_zero]
      apply Oblig.cons
      case h =>
        intro S w1 hwi hSi hd hcl
        apply StepOk.intro
        intro K hK
        have d1 := (HWG.out.keep0 hwi).cell b (by omega)
        go_simp
        apply hK
        · rfl
        · conv => (lhs; whnf)
        · exact hwi
      simp only [put_lit, put_none]
      try dsimp only [List.set_cons_succ, List.set_cons_zero]
      apply Oblig.cons
      case h =>
        intro S w1 hwi hSi hd hcl
        apply StepOk.intro
        intro K hK
        have d1 := (HWG.out.keep0 hwi).cell b (by omega)
        go_simp
        apply hK
        · rfl
        · conv => (lhs; whnf)
        · exact hwi
      simp only [put_lit, put_none]
      try dsimp only [List.set_cons_succ, List.set_cons_zero]
      apply Oblig.cons
      case h =>
        intro S w1 hwi hSi hd hcl
        apply StepOk.intro
        intro K hK
        have d1 := (HWG.out.keep0 hwi).cell b (by omega)
        go_simp
        apply hK
        · rfl
        · conv => (lhs; whnf)
        · exact hwi
      simp only [put_lit, put_none]
      try dsimp only [List.set_cons_succ, List.set_cons_zero]
      apply Oblig.cons
      case h =>
        intro S w1 hwi hSi hd hcl
        apply StepOk.intro
        intro K hK
        have d1 := (HWG.out.keep0 hwi).cell b (by omega)
        go_simp
        apply hK
        · rfl
        · conv => (lhs; whnf)
        · exact hwi
      simp only [put_lit, put_none]
      try dsimp only [List.set_cons_succ, List.set_cons_zero]
      apply Oblig.cons
      case h =>
        intro S w1 hwi hSi hd hcl
        apply StepOk.intro
        intro K hK
        have d1 := (HWG.out.keep0 hwi).cell b (by omega)
        go_simp
        apply hK
        · rfl
        · conv => (lhs; whnf)
        · exact hwi
      simp only [put_lit, put_none]
      try dsimp only [List.set_cons_succ, List.set_cons_zero]
      apply Oblig.cons
      case h =>
        intro S w1 hwi hSi hd hcl
        apply StepOk.intro
        intro K hK
        have d1 := (HWG.out.keep0 hwi).cell b (by omega)
        go_simp
        apply hK
        · rfl
        · conv => (lhs; whnf)
        · exact hwi
      simp only [put_lit, put_none]
      try dsimp only [List.set_cons_succ, List.set_cons_zero]
      apply Oblig.cons
      case h =>
        intro S w1 hwi hSi hd hcl
        apply StepOk.intro
        intro K hK
        have d1 := (HWG.out.keep0 hwi).cell b (by omega)
        go_simp
        apply hK
        · rfl
        · conv => (lhs; whnf)
        · exact hwi
      simp only [put_lit, put_none]
      try dsimp only [List.set_cons_succ, List.set_cons_zero]
      apply Oblig.cons
      case h =>
        intro S w1 hwi hSi hd hcl
        apply StepOk.intro
        intro K hK
        have d1 := (HWG.out.keep0 hwi).cell b (by omega)
        go_simp
        apply hK
        · rfl
        · conv => (lhs; whnf)
        · exact hwi
      simp only [put_lit, put_none]
      try dsimp only [List.set_cons_succ, List.set_cons_zero]
      apply Oblig.cons
      case h =>
        intro S w1 hwi hSi hd hcl
        apply StepOk.intro
        intro K hK
        have d1 := (HWG.out.keep0 hwi).cell b (by omega)
        go_simp
        apply hK
        · rfl
        · conv => (lhs; whnf)
        · exact hwi
      simp only [put_lit, put_none]
      try dsimp only [List.set_cons_succ, List.set_cons_zero]
      apply Oblig.cons
      case h =>
        intro S w1 hwi hSi hd hcl
        apply StepOk.intro
        intro K hK
        have d1 := (HWG.out.keep0 hwi).cell b (by omega)
        go_simp
        apply hK
        · rfl
        · conv => (lhs; whnf)
        · exact hwi
      simp only [put_lit, put_none]
      try dsimp only [List.set_cons_succ, List.set_cons_zero]
      apply Oblig.cons
      case h =>
        intro S w1 hwi hSi hd hcl
        apply StepOk.intro
        intro K hK
        have d1 := (HWG.out.keep0 hwi).cell b (by omega)
        go_simp
        apply hK
        · rfl
        · conv => (lhs; whnf)
        · exact hwi
      simp only [put_lit, put_none]
      try dsimp only [List.set_cons_succ, List.set_cons_zero]
      apply Oblig.cons
      case h =>
        intro S w1 hwi hSi hd hcl
        apply StepOk.intro
        intro K hK
        have d1 := (HWG.out.keep0 hwi).cell b (by omega)
        go_simp
        apply hK
        · rfl
        · conv => (lhs; whnf)
        · exact hwi
      simp only [put_lit, put_none]
      try dsimp only [List.set_cons_succ, List.set_cons_zero]
      apply Oblig.cons
      case h =>
        intro S w1 hwi hSi hd hcl
        apply StepOk.intro
        intro K hK
        have d1 := (HWG.out.keep0 hwi).cell b (by omega)
        go_simp
        apply hK
        · rfl
        · conv => (lhs; whnf)
        · exact hwi
      simp only [put_lit, put_none]
      try dsimp only [List.set_cons_succ, List.set_cons_zero]
      apply Oblig.cons
      case h =>
        intro S w1 hwi hSi hd hcl
        apply StepOk.intro
        intro K hK
        have d1 := (HWG.out.keep0 hwi).cell b (by omega)
        go_simp
        apply hK
        · rfl
        · conv => (lhs; whnf)
        · exact hwi
      simp only [put_lit, put_none]
      try dsimp only [List.set_cons_succ, List.set_cons_zero]
      apply Oblig.cons
      case h =>
        intro S w1 hwi hSi hd hcl
        apply StepOk.intro
        intro K hK
        skip
        go_simp
        refine (show Calls Try.prog 16 #[ptr x] w1 (Ret (.agg #[i64 0, i64 (rd WW b), .bool false, i64 0]) w1) from by have h := count_Ans _ (HX.out.keep hwi (fun _ _ h => h)); rw [hB.out.2.1, hB.out.2.2] at h; exact h).mono ?_
        rintro e w2 ⟨rfl, hk⟩
        apply hK
        · rfl
        · conv => (lhs; whnf)
        · exact Keep0.step hwi hk
      simp only [put_lit, put_none]
      try dsimp only [List.set_cons_succ, List.set_cons_zero]
      apply Oblig.cons
      case h =>
        intro S w1 hwi hSi hd hcl
        apply StepOk.intro
        intro K hK
        have d1 := (HWG.out.keep0 hwi).cell b (by omega)
        go_simp
        apply hK
        · rfl
        · conv => (lhs; whnf)
        · exact hwi
      simp only [put_lit, put_none]
      try dsimp only [List.set_cons_succ, List.set_cons_zero]
      apply Oblig.cons
      case h =>
        intro S w1 hwi hSi hd hcl
        apply StepOk.intro
        intro K hK
        have d1 := (HWG.out.keep0 hwi).cell b (by omega)
        go_simp
        apply hK
        · rfl
        · conv => (lhs; whnf)
        · exact hwi
      simp only [put_lit, put_none]
      try dsimp only [List.set_cons_succ, List.set_cons_zero]
      apply Oblig.cons
      case h =>
        intro S w1 hwi hSi hd hcl
        apply StepOk.intro
        intro K hK
        have d1 := (HWG.out.keep0 hwi).cell b (by omega)
        go_simp
        apply hK
        · rfl
        · conv => (lhs; whnf)
        · exact hwi
      simp only [put_lit, put_none]
      try dsimp only [List.set_cons_succ, List.set_cons_zero]
      apply Oblig.cons
      case h =>
        intro S w1 hwi hSi hd hcl
        apply StepOk.intro
        intro K hK
        have d1 := (HWG.out.keep0 hwi).cell b (by omega)
        go_simp
        apply hK
        · rfl
        · conv => (lhs; whnf)
        · exact hwi
      simp only [put_lit, put_none]
      try dsimp only [List.set_cons_succ, List.set_cons_zero]
      apply Oblig.cons
      case h =>
        intro S w1 hwi hSi hd hcl
        apply StepOk.intro
        intro K hK
        have d1 := (HWG.out.keep0 hwi).cell b (by omega)
        go_simp
        apply hK
        · rfl
        · conv => (lhs; whnf)
        · exact hwi
      simp only [put_lit, put_none]
      try dsimp only [List.set_cons_succ, List.set_cons_zero]
      apply Oblig.cons
      case h =>
        intro S w1 hwi hSi hd hcl
        apply StepOk.intro
        intro K hK
        have d1 := (HWG.out.keep0 hwi).cell b (by omega)
        go_simp
        apply hK
        · rfl
        · conv => (lhs; whnf)
        · exact hwi
      simp only [put_lit, put_none]
      try dsimp only [List.set_cons_succ, List.set_cons_zero]
      apply Oblig.cons
      case h =>
        intro S w1 hwi hSi hd hcl
        apply StepOk.intro
        intro K hK
        have d1 := (HWG.out.keep0 hwi).cell b (by omega)
        go_simp
        apply hK
        · rfl
        · conv => (lhs; whnf)
        · exact hwi
      simp only [put_lit, put_none]
      try dsimp only [List.set_cons_succ, List.set_cons_zero]
      apply Oblig.cons
      case h =>
        intro S w1 hwi hSi hd hcl
        apply StepOk.intro
        intro K hK
        have d1 := (HWG.out.keep0 hwi).cell b (by omega)
        go_simp
        apply hK
        · rfl
        · conv => (lhs; whnf)
        · exact hwi
      simp only [put_lit, put_none]
      try dsimp only [List.set_cons_succ, List.set_cons_zero]
      exact Oblig.nil
    case h0 =>
      exact (Keep.refl _ _).drew
    case hend =>
      intro S wx hwi hall
      have HKX := hid hwi
      clear hwi hall
      go_wp2_with fail
      go_ret
      exact ⟨rfl, HK7.out.trans HKX.out (fun _ _ h => h)⟩
end Go.Proofs.Ytlkniogapdhcpaa
