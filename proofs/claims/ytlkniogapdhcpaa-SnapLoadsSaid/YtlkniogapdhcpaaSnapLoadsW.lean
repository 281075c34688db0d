/- SnapLoads: a count only loads, words of the counter alone; whatever others do it ends behind as many tries as may be, and what is not exact is what the global word was at some step. -/
import Derived.Test.YtlkniogapdhcpaaSnapM
import Derived.Test.YtlkniogapdhcpaaLawSixE
import Derived.Test.YtlkniogapdhcpaaRowSix
import Derived.Test.YtlkniogapdhcpaaLog
import Derived.Test.YtlkniogapdhcpaaPks
namespace Go.Proofs.Ytlkniogapdhcpaa
open Go.RowKit
set_option linter.unusedVariables false
set_option linter.unusedSimpArgs false
set_option maxRecDepth 100000
@[go_sem] theorem field_ans7_1 (x0 x1 x2 x3 : Value) (w : World) : (Instr.field 45 (.agg #[x0, x1, x2, x3]) 1).run Try.prog w = .ok x1 w := by kernel_rfl
@[go_sem] theorem field_ans7_2 (x0 x1 x2 x3 : Value) (w : World) : (Instr.field 45 (.agg #[x0, x1, x2, x3]) 2).run Try.prog w = .ok x2 w := by kernel_rfl
/-- was the answer loaded from the global word, among the first i -/
def smB (L : List Acc) (b : Nat) (n : Int) : Nat → Bool
  | 0 => false
  | i + 1 => smB L b n i || (match L[i]? with | some e => e.w == (b : Int) && e.a == n | none => false)
theorem smB_true {L : List Acc} {b : Nat} {n : Int} {j : Nat} (h : j < L.length) (h1 : L[j].w = (b : Int)) (h2 : L[j].a = n) : ∀ i, j < i → smB L b n i = true := by
  intro i
  induction i with
  | zero => intro h; omega
  | succ i ih =>
    intro hi
    simp only [smB]
    by_cases e : j = i
    · subst e; simp [h, h1, h2]
    · rw [ih (by omega)]; rfl
theorem smB_step {L : List Acc} {b : Nat} {n : Int} {i : Nat} (h : i < L.length) : smB L b n (i + 1) = (smB L b n i || (L[i].w == (b : Int) && L[i].a == n)) := by simp [smB, h]
set_option maxHeartbeats 4000000 in
theorem snapLoads_walk {w : World} {v0 v1 : Value} (hc : CounterIn w v0) (hK0 : ∃ l, pksIn w v1 l) (retry : Int) (hretry : (Lit.int .u8 retry).wf = true) : Calls Try.prog 3 #[v0, v1, .int .u8 retry] w (Ret (.bool true) w) := by
  have hretry := bounds_u8 hretry
  obtain ⟨K, KA, kc, rfl, _, hK⟩ := hK0
  obtain ⟨kb, ko, hkb, hkc0⟩ := hK.at_
  clear hK
  obtain ⟨ba, sr, ga, gl, li, VA, V, vc, UA, U, uc, rfl, h0, h1, h2, h3, h4, hV, hv1, hvb, hU, hu1, hub⟩ := hc
  obtain ⟨b, hb⟩ : ∃ b : Nat, (b : Int) = ba % 8 := ⟨(ba % 8).toNat, by omega⟩
  have hz1 := sz4_bd sr
  have hz2 := sz4_bd li
  obtain ⟨s, hs⟩ : ∃ s : Nat, (s : Int) = sz4 sr := ⟨(sz4 sr).toNat, by omega⟩
  obtain ⟨g, hg⟩ : ∃ g : Nat, (g : Int) = ga % 40 + 1 := ⟨(ga % 40 + 1).toNat, by omega⟩
  obtain ⟨l, hl⟩ : ∃ l : Nat, (l : Int) = min (sz4 li) (sz4 sr) := ⟨(min (sz4 li) (sz4 sr)).toNat, by omega⟩
  have HP2 := hid (show p2 (s : Int) ∧ p2 (l : Int) ∧ (l : Int) ≤ s from ⟨by rw [hs]; exact sz4_p2 _, by rw [hl]; exact (p2_min (sz4_p2 _) (sz4_p2 _)).1, by rw [hl, hs]; exact (p2_min (sz4_p2 _) (sz4_p2 _)).2⟩)
  have hbb : b ≤ 7 := by omega
  have hss : 1 ≤ s ∧ s ≤ 8 := by omega
  have hgg : 1 ≤ g ∧ g ≤ 40 := by omega
  have hll : 1 ≤ l ∧ l ≤ 8 := by omega
  have HSZ := hid (fun w' => law6_Size ba sr ga gl li VA V.length vc UA U.length uc w' h0 h1 h2 h4)
  rw [← hl, ← hb, ← hs, ← hg] at HSZ
  have HWO := hid (fun (w' : World) (hk : Keep0 w w') hv hu => law6_Words ba sr ga gl li VA V vc UA U uc w' b s g l h0 h1 h2 h4 h3 (hV.keep hk) (hU.keep hk) hv hu hvb hub hb hs hg hl)
  skip
  have HK0 : Hid (Keep0 w (w.alloc (.cells #[.int .u8 ba, .int .u8 sr, .int .u16 ga, .int .i32 gl, .int .u8 li, .slice VA V.length vc, .slice UA U.length uc] 26))) := hid ((Keep.refl _ _).alloc _)
  clear hV hU hv1 hu1 hvb hub h0 h1 h2 h4 hb hs hg hl hz1 hz2
  have hr0 : 0 ≤ retry % 8 := Int.emod_nonneg _ (by omega)
  have hr1 : retry % 8 < 8 := Int.emod_lt_of_pos _ (by omega)
  obtain ⟨r, hrr⟩ : ∃ r : Nat, (r : Int) = retry % 8 + 1 := ⟨(retry % 8 + 1).toNat, by omega⟩
  have hr8 : 1 ≤ r ∧ r ≤ 8 := by omega
  have yr1 : IntKind.i64.wrap (retry % 8 + 1) = (r : Int) := by rw [hrr]; exact IntWalk.i64_in _ (by omega)
  have yr2 : retry.tmod 8 = retry % 8 := Int.tmod_eq_emod_of_nonneg hretry.1
  clear hrr hr0 hr1
  go_enter Try.func3, Try.ntmps3
  go_wp2_with fail
  have HB : Hid (Blk (w.alloc (.cells #[.int .u8 ba, .int .u8 sr, .int .u16 ga, .int .i32 gl, .int .u8 li, .slice VA V.length vc, .slice UA U.length uc] 26)) w.heap.size 26 [.int .u8 ba, .int .u8 sr, .int .u16 ga, .int .i32 gl, .int .u8 li, .slice VA V.length vc, .slice UA U.length uc]) := hid (Blk.made rfl rfl)
  have qHB := HB.out.k7
  refine (law7_head _).mono ?_
  rintro e w1 ⟨rfl, hk⟩
  have HK1 : Hid (Keep0 w w1) := hid (Keep0.step (by repeat (with_reducible first | exact Keep.refl _ _ | exact HK0.out | apply Keep.alloc | apply Keep.drewN | apply Keep.drew)) hk)
  have THB := hk.blk (show Blk _ _ _ _ from by repeat (with_reducible first | exact HB.out | apply Blk.alloc | apply Blk.drewN | apply Blk.drew)) (fun h => h)
  clear hk qHB HB HK0
  have HB := hid THB
  clear THB
  have qHB := HB.out.k7
  by_cases hgd0 : 40 < K.length
  · go_wp2_with fail
    go_ret
    exact ⟨rfl, HK1.out⟩
  by_cases hgd1 : 20 < V.length
  · go_wp2_with fail
    go_ret
    exact ⟨rfl, HK1.out⟩
  by_cases hgd2 : 20 < U.length
  · go_wp2_with fail
    go_ret
    exact ⟨rfl, HK1.out⟩
  go_wp2_with fail
  refine (HSZ.out _).mono ?_
  rintro e w2 ⟨rfl, hk⟩
  have HK2 : Hid (Keep0 w w2) := hid (Keep0.step (by repeat (with_reducible first | exact Keep.refl _ _ | exact HK1.out | apply Keep.alloc | apply Keep.drewN | apply Keep.drew)) hk)
  have THB := hk.blk (show Blk _ _ _ _ from by repeat (with_reducible first | exact HB.out | apply Blk.alloc | apply Blk.drewN | apply Blk.drew)) (fun h => h)
  clear hk qHB HB HK1
  have HB := hid THB
  clear THB
  have qHB := HB.out.k7
  clear HSZ
  go_wp2_with fail
  refine (HWO.out _ (by repeat (with_reducible first | exact Keep.refl _ _ | exact HK2.out | apply Keep.alloc | apply Keep.drewN | apply Keep.drew)) (by omega) (by omega)).mono ?_
  rintro e w3 ⟨wg, rfl, hwg, hk, hwge⟩
  generalize hN : b + 4 + s + 3 = N at *
  have HWF := hid (wf6 b s g gl l V U hgg)
  generalize words6 b g (zero6 b s gl l) V U s = WW at *
  have HN := hid hN
  have hln : WW.length = N := HWF.out.ln.trans hN
  have hN1 : b + 4 + s ≤ N := by omega
  have hN2 : N ≤ 22 := by omega
  clear hN
  have HWG := hid (Blk.ints hwg)
  have hwz : w.heap.size ≤ wg := Nat.le_trans HK2.out.size (by simpa using hwge)
  have HK3 : Hid (Keep0 w w3) := hid (Keep0.step (by repeat (with_reducible first | exact Keep.refl _ _ | exact HK2.out | apply Keep.alloc | apply Keep.drewN | apply Keep.drew)) hk)
  have THB := hk.blk (show Blk _ _ _ _ from by repeat (with_reducible first | exact HB.out | apply Blk.alloc | apply Blk.drewN | apply Blk.drew)) (fun h => h)
  clear hk qHB HB HK2
  have HB := hid THB
  clear THB
  have qHB := HB.out.k7
  clear hwg HWO hwge
  clear qHB HB
  go_wp2_with fail
  refine (law7_laid w.heap.size _ wg _ N WW HWG.out hln.symm (by omega) (by have := HK3.out.size; omega)).mono ?_
  rintro e w4 ⟨m, a, lv, rfl, hm, hk, hzm, hza⟩
  have hzm' : w.heap.size ≤ m := Nat.le_trans HK3.out.size hzm
  have hza' : w.heap.size ≤ a := Nat.le_trans HK3.out.size hza
  have hwgm : wg ≠ a := by have := HWG.out.lt; omega
  have HK4 : Hid (Keep0 w w4) := hid (Keep0.step (by repeat (with_reducible first | exact Keep.refl _ _ | exact HK3.out | apply Keep.alloc | apply Keep.drewN | apply Keep.drew)) hk)
  have THWG := hk.ints (show Ints _ _ _ from by repeat (with_reducible first | exact HWG.out | apply Ints.alloc | apply Ints.drewN | apply Ints.drew)) (fun h => h)
  clear hk HWG HK3
  have HWG := hid THWG
  clear THWG
  have HM := hid hm
  clear hm hzm hza
  clear HWG
  go_wp2_with fail
  have hks := HK4.out.size
  refine (snap_Count b s ((r : Int)) _ (by omega) (by omega)).mono ?_
  rintro e w5 ⟨x, R, rfl, hk, hx, hr⟩
  have HRM := hid (new_mf HM.out hr)
  have hrz : ∀ k, R k → w.heap.size ≤ k := fun k h => Nat.le_trans hks (hr k h)
  have HK5 : Hid (Keep0 w w5) := hid (Keep0.step (by repeat (with_reducible first | exact Keep.refl _ _ | exact HK4.out | apply Keep.alloc | apply Keep.drewN | apply Keep.drew)) hk)
  have THM := MemAt.same (by repeat (with_reducible first | exact HM.out | apply MemAt.alloc | apply MemAt.drew)) hk
  clear hk HM HK4
  have HM := hid THM
  clear THM
  have HX := hid (hx (WW) ([]))
  clear hks hx hr
  have HCO := hid hkc0
  have hkcs : ∀ i (h : i < K.length), w5.cell? ⟨kb, ko + i * 3, none⟩ = some (i64 K[i].at_) ∧ w5.cell? ⟨kb, ko + i * 3 + 1, none⟩ = some (i64 K[i].w) ∧ w5.cell? ⟨kb, ko + i * 3 + 2, none⟩ = some (i64 K[i].x) := by
    intro i hi
    obtain ⟨e, hz⟩ := hkb (by omega)
    obtain ⟨h1, h2, h3⟩ := HCO.out i hi
    exact ⟨by rw [cell_old HK5.out hz (fun h => h)]; exact h1, by rw [cell_old HK5.out hz (fun h => h)]; exact h2, by rw [cell_old HK5.out hz (fun h => h)]; exact h3⟩
  have hksz := HK5.out.size
  have hlow := fun b (e : lv.ownBlock = some b) => (HM.out.log.lt b e).1
  clear hkc0 HCO
  go_wp2_with fail
  have hp := play_count (b := b) (s := s) (B := w.heap.size) (w := w5) (m := m) (a := a) (x := x) (lv := lv) (R := R) ⟨WW, [], (r : Int), [], 0, false, false⟩ K KA kb ko kc (1000) (by omega) HM.out HX.out HRM.out (NInv.start (by show b + 4 + s ≤ WW.length; omega) (by omega) hss (by omega)) (by simp) (by omega) (by omega) (fun h => by obtain ⟨e, hz⟩ := hkb h; exact ⟨e, by omega, by omega, by omega, fun h2 => by have := hrz kb h2; omega, fun e2 => by have := hlow kb e2; omega⟩) hkcs
  rw [show (⟨WW, [], (r : Int), [], 0, false, false⟩ : SN).W.length = WW.length from rfl] at hp
  have hcp := nPlay_count b s WW.length K 1000 0 ⟨WW, [], (r : Int), [], 0, false, false⟩ rfl
  have hld := nLoads b s r WW.length K WW 1000 hss.1 hr8.1
  generalize playF (nStp b s) nPk WW.length K 1000 0 ⟨WW, [], (r : Int), [], 0, false, false⟩ = pf at *
  obtain ⟨pt, pn, pb⟩ := pf
  simp only at hp hld
  clear hkcs hlow hksz
  refine hp.mono ?_
  rintro e w6 ⟨rfl, ⟨kk, lv', R', hm, ho, hx, hlen, hlg, hin, _, hr1, hr2⟩, hk⟩
  have hrz' : ∀ k, R' k → w.heap.size ≤ k := fun k h => (hr1 k h).elim (hrz k) (fun h2 => Nat.le_trans HK5.out.size h2)
  have HK6 : Hid (Keep0 w w6) := hid (nplay_far HM.out hrz hk HK5.out rfl)
  clear hp HM HX HK5 hk hrz HRM ho hr1 
  obtain ⟨lv, hlv⟩ : ∃ v, v = lv' := ⟨_, rfl⟩
  subst hlv
  have HM := hid hm
  have HX := hid hx
  have HI := hid hin
  have HRM := hid hr2
  have hrz := hrz'
  have HLEN := hid hlen
  clear hm hx hin hr2 hrz' hlen hlg
  obtain ⟨R, hRR⟩ : ∃ v, v = R' := ⟨_, rfl⟩
  subst hRR
  obtain ⟨rfl, hlo⟩ := loads_of rfl hld hcp hss.2 hr8.2
  have HLO := hid hlo
  have HLL := hid hlo.len
  obtain ⟨j, hj1, hj2, hj3, hj4⟩ := hlo.tries
  obtain ⟨an, han⟩ : ∃ an : Int, an = pt.n := ⟨_, rfl⟩
  obtain ⟨ax, hax⟩ : ∃ ax : Bool, ax = pt.ex := ⟨_, rfl⟩
  have HAN := hid han.symm
  have HAX := hid hax.symm
  rw [← han, ← hax] at hj4
  have HJ4 := hid hj4
  have hjP : j * (4 + 2 * s) ≤ r * (4 + 2 * s) := Nat.mul_le_mul hj2 (Nat.le_refl _)
  have hrP : r * (4 + 2 * s) ≤ 8 * 20 := Nat.mul_le_mul hr8.2 (by omega)
  obtain ⟨Q, hQ⟩ : ∃ Q, Q = r * (4 + 2 * s) := ⟨_, rfl⟩
  have y1 : IntKind.i64.wrap (2 * (s : Int)) = 2 * (s : Int) := IntWalk.i64_in _ (by omega)
  have y2 : IntKind.i64.wrap (4 + 2 * (s : Int)) = 4 + 2 * (s : Int) := IntWalk.i64_in _ (by omega)
  have y3 : IntKind.i64.wrap ((r : Int) * (4 + 2 * (s : Int))) = (Q : Int) := by
    rw [show (r : Int) * (4 + 2 * (s : Int)) = (Q : Int) from by rw [hQ]; push_cast; rfl]
    exact IntWalk.i64_in _ (by omega)
  have HQ := hid hQ
  have HJ3 := hid hj3
  have hpQ : pn ≤ Q := by omega
  have hp160 : pn ≤ 160 := by omega
  have g1 : decide ((Q : Int) < (pn : Int)) = false := decide_eq_false (by omega)
  have ye : (pn : Int) % (4 + 2 * (s : Int)) = 0 := by
    rw [hj3, show ((j * (4 + 2 * s) : Nat) : Int) = (j : Int) * (4 + 2 * (s : Int)) from by push_cast; rfl]
    exact Int.mul_emod_left _ _
  have yt : ((pn : Int)).tmod (4 + 2 * (s : Int)) = 0 := by rw [Int.tmod_eq_emod_of_nonneg (by omega)]; exact ye
  have yz : ¬ (4 + 2 * (s : Int)) = 0 := by omega
  clear hlo hld hcp han hax hj3 hj4 hjP hrP hQ hj1 hj2
  have hmlog := mem_Log HM.out (by rw [HLL.out]; omega)
  rw [HLL.out] at hmlog
  go_wp2_with fail
  refine hmlog.mono ?_
  rintro e w7 ⟨lga, lgc, rfl, hacc, hk⟩
  have HAC := hid hacc
  have HX2 := hid (HX.out.keep hk (fun _ _ h => h))
  have HK7 : Hid (Keep0 w w7) := hid (Keep0.step HK6.out hk)
  clear hmlog hacc hk HM HX HK6
  go_wp2_with fail
  obtain ⟨w9, hw9⟩ : ∃ v, v = w7 := ⟨_, rfl⟩
  rw [← hw9] at HAC HX2 HK7 ⊢
  clear hw9 g1 ye yt yz hpQ
  go_loopw [18, 19] (fun u v wr => ∃ i : Nat, i ≤ pn ∧ v = .int .i64 (i : Int) ∧ u = .bool (smB pt.L b an i) ∧ Keep0 w9 wr) (fun _ v _ => pn - (intOf v).toNat)
  case atStart => exact ⟨0, Nat.zero_le _, rfl, rfl, Keep.refl _ _⟩
  case round =>
    obtain ⟨i, hi, rfl, rfl, hk⟩ := hrel
    have HKR := hid hk
    have HXR := hid (HX2.out.keep hk (fun _ _ h => h))
    by_cases hlt : i < pn
    · have hil : i < pt.L.length := by rw [HLL.out]; exact hlt
      obtain ⟨lb, lo', hla, hlc⟩ : ∃ b o, lga = some ⟨b, o, none⟩ ∧ ∀ n u, (accs pt.L)[n]? = some u → w9.cell? ⟨b, o + n, none⟩ = some u := by
        rcases HAC.out with h | h
        · rw [h] at hil; cases hil
        · exact h
      subst hla
      obtain ⟨hk1, hw1, hw2⟩ := HLO.out.all i hil
      have hsb := smB_step (b := b) (n := an) hil
      obtain ⟨xk, xw, xa, xb, xo, hx⟩ : ∃ xk xw xa xb xo, pt.L[i] = Acc.mk xk xw xa xb xo := ⟨_, _, _, _, _, rfl⟩
      have q0 : w9.cell? ⟨lb, lo' + i * 5, none⟩ = some (i64 xk) := by have h := hlc (i * 5 + 0) (i64 xk) (by rw [accs_get pt.L i hil 0 (by omega), hx]; rfl); simpa [Nat.add_assoc] using h
      have q1 : w9.cell? ⟨lb, lo' + i * 5 + 1, none⟩ = some (i64 xw) := by have h := hlc (i * 5 + 1) (i64 xw) (by rw [accs_get pt.L i hil 1 (by omega), hx]; rfl); simpa [Nat.add_assoc] using h
      have q2 : w9.cell? ⟨lb, lo' + i * 5 + 2, none⟩ = some (i64 xa) := by have h := hlc (i * 5 + 2) (i64 xa) (by rw [accs_get pt.L i hil 2 (by omega), hx]; rfl); simpa [Nat.add_assoc] using h
      rw [hx] at hk1 hw1 hw2 hsb
      simp only at hk1 hw1 hw2 hsb
      subst hk1
      have hl9 := World.block_lt_of_cell? _ _ q0
      simp only at hl9
      have d0 := (cell_old hk hl9 (fun h => h) _).trans q0
      have d1 := (cell_old hk hl9 (fun h => h) _).trans q1
      have d2 := (cell_old hk hl9 (fun h => h) _).trans q2
      have hlz : lb < wr.heap.size := Nat.lt_of_lt_of_le hl9 hk.size
      have D1 := hid d1
      have D2 := hid d2
      have y4 : IntKind.i64.wrap ((b : Int) + 4) = (b : Int) + 4 := IntWalk.i64_in _ (by omega)
      have y5 : IntKind.i64.wrap ((b : Int) + 4 + (s : Int)) = (b : Int) + 4 + (s : Int) := IntWalk.i64_in _ (by omega)
      have g2 : decide (xw < (b : Int)) = false := decide_eq_false (by omega)
      have g3 : decide ((b : Int) + 4 + (s : Int) ≤ xw) = false := decide_eq_false (by omega)
      have HSB := hid hsb
      clear hsb hlc q0 q1 q2 hx hk hw1 hw2
      generalize smB pt.L b an i = sm at *
      cases sm with
      | true =>
        rw [Bool.true_or] at HSB
        go_wp2_with fail
        go_quiet (fail)
        go_wp2_with fail
        go_roundw
        case rel => exact ⟨i + 1, by omega, by go_num, by rw [HSB.out], HKR.out.drewN nq⟩
        case measure => simp [intOf]; omega
      | false =>
        rw [Bool.false_or] at HSB
        cases hwb : (xw == (b : Int)) with
        | false =>
          rw [hwb, Bool.false_and] at HSB
          go_wp2_with fail
          go_quiet (fail)
          go_wp2_with fail
          go_roundw
          case rel => exact ⟨i + 1, by omega, by go_num, by rw [HSB.out], HKR.out.drewN nq⟩
          case measure => simp [intOf]; omega
        | true =>
          rw [hwb, Bool.true_and] at HSB
          go_wp2_with fail
          clear d0
          apply wp_region_text (WI := fun S wx => Keep0 wr wx) (by kernel_rfl) (by kernel_rfl)
          case hob =>
            apply Oblig.cons
            case h =>
              intro S w1 hwi hSi hd hcl
              apply StepOk.intro
              intro K hK
              have d1 := (cell_old hwi hlz (fun h => h) _).trans D1.out
              have d2 := (cell_old hwi hlz (fun h => h) _).trans D2.out
              go_simp
              apply hK
              · rfl
              · conv => (lhs; whnf)
              · exact hwi
            simp only [put_lit, put_none]
            try dsimp only [List.set_cons_succ, List.set_cons_zero]
            apply Oblig.cons
            case h =>
              intro S w1 hwi hSi hd hcl
              apply StepOk.intro
              intro K hK
              have d1 := (cell_old hwi hlz (fun h => h) _).trans D1.out
              have d2 := (cell_old hwi hlz (fun h => h) _).trans D2.out
              go_simp
              apply hK
              · rfl
              · conv => (lhs; whnf)
              · exact hwi
            simp only [put_lit, put_none]
            try dsimp only [List.set_cons_succ, List.set_cons_zero]
            apply Oblig.cons
            case h =>
              intro S w1 hwi hSi hd hcl
              apply StepOk.intro
              intro K hK
              have d1 := (cell_old hwi hlz (fun h => h) _).trans D1.out
              have d2 := (cell_old hwi hlz (fun h => h) _).trans D2.out
              go_simp
              apply hK
              · rfl
              · conv => (lhs; whnf)
              · exact hwi
            simp only [put_lit, put_none]
            try dsimp only [List.set_cons_succ, List.set_cons_zero]
            apply Oblig.cons
            case h =>
              intro S w1 hwi hSi hd hcl
              apply StepOk.intro
              intro K hK
              have d1 := (cell_old hwi hlz (fun h => h) _).trans D1.out
              have d2 := (cell_old hwi hlz (fun h => h) _).trans D2.out
              go_simp
              apply hK
              · rfl
              · conv => (lhs; whnf)
              · exact hwi
            simp only [put_lit, put_none]
            try dsimp only [List.set_cons_succ, List.set_cons_zero]
            apply Oblig.cons
            case h =>
              intro S w1 hwi hSi hd hcl
              apply StepOk.intro
              intro K hK
              have d1 := (cell_old hwi hlz (fun h => h) _).trans D1.out
              have d2 := (cell_old hwi hlz (fun h => h) _).trans D2.out
              go_simp
              apply hK
              · rfl
              · conv => (lhs; whnf)
              · exact hwi
            simp only [put_lit, put_none]
            try dsimp only [List.set_cons_succ, List.set_cons_zero]
            apply Oblig.cons
            case h =>
              intro S w1 hwi hSi hd hcl
              apply StepOk.intro
              intro K hK
              have d1 := (cell_old hwi hlz (fun h => h) _).trans D1.out
              have d2 := (cell_old hwi hlz (fun h => h) _).trans D2.out
              go_simp
              apply hK
              · rfl
              · conv => (lhs; whnf)
              · exact hwi
            simp only [put_lit, put_none]
            try dsimp only [List.set_cons_succ, List.set_cons_zero]
            apply Oblig.cons
            case h =>
              intro S w1 hwi hSi hd hcl
              apply StepOk.intro
              intro K hK
              have d1 := (cell_old hwi hlz (fun h => h) _).trans D1.out
              have d2 := (cell_old hwi hlz (fun h => h) _).trans D2.out
              go_simp
              apply hK
              · rfl
              · conv => (lhs; whnf)
              · exact hwi
            simp only [put_lit, put_none]
            try dsimp only [List.set_cons_succ, List.set_cons_zero]
            apply Oblig.cons
            case h =>
              intro S w1 hwi hSi hd hcl
              apply StepOk.intro
              intro K hK
              have d1 := (cell_old hwi hlz (fun h => h) _).trans D1.out
              have d2 := (cell_old hwi hlz (fun h => h) _).trans D2.out
              go_simp
              apply hK
              · rfl
              · conv => (lhs; whnf)
              · exact hwi
            simp only [put_lit, put_none]
            try dsimp only [List.set_cons_succ, List.set_cons_zero]
            apply Oblig.cons
            case h =>
              intro S w1 hwi hSi hd hcl
              apply StepOk.intro
              intro K hK
              have d1 := (cell_old hwi hlz (fun h => h) _).trans D1.out
              have d2 := (cell_old hwi hlz (fun h => h) _).trans D2.out
              go_simp
              apply hK
              · rfl
              · conv => (lhs; whnf)
              · exact hwi
            simp only [put_lit, put_none]
            try dsimp only [List.set_cons_succ, List.set_cons_zero]
            apply Oblig.cons
            case h =>
              intro S w1 hwi hSi hd hcl
              apply StepOk.intro
              intro K hK
              have d1 := (cell_old hwi hlz (fun h => h) _).trans D1.out
              have d2 := (cell_old hwi hlz (fun h => h) _).trans D2.out
              go_simp
              apply hK
              · rfl
              · conv => (lhs; whnf)
              · exact hwi
            simp only [put_lit, put_none]
            try dsimp only [List.set_cons_succ, List.set_cons_zero]
            apply Oblig.cons
            case h =>
              intro S w1 hwi hSi hd hcl
              apply StepOk.intro
              intro K hK
              have d1 := (cell_old hwi hlz (fun h => h) _).trans D1.out
              have d2 := (cell_old hwi hlz (fun h => h) _).trans D2.out
              go_simp
              apply hK
              · rfl
              · conv => (lhs; whnf)
              · exact hwi
            simp only [put_lit, put_none]
            try dsimp only [List.set_cons_succ, List.set_cons_zero]
            apply Oblig.cons
            case h =>
              intro S w1 hwi hSi hd hcl
              apply StepOk.intro
              intro K hK
              have d1 := (cell_old hwi hlz (fun h => h) _).trans D1.out
              have d2 := (cell_old hwi hlz (fun h => h) _).trans D2.out
              go_simp
              apply hK
              · rfl
              · conv => (lhs; whnf)
              · exact hwi
            simp only [put_lit, put_none]
            try dsimp only [List.set_cons_succ, List.set_cons_zero]
            apply Oblig.cons
            case h =>
              intro S w1 hwi hSi hd hcl
              apply StepOk.intro
              intro K hK
              have d1 := (cell_old hwi hlz (fun h => h) _).trans D1.out
              have d2 := (cell_old hwi hlz (fun h => h) _).trans D2.out
              go_simp
              apply hK
              · rfl
              · conv => (lhs; whnf)
              · exact hwi
            simp only [put_lit, put_none]
            try dsimp only [List.set_cons_succ, List.set_cons_zero]
            apply Oblig.cons
            case h =>
              intro S w1 hwi hSi hd hcl
              apply StepOk.intro
              intro K hK
              have d1 := (cell_old hwi hlz (fun h => h) _).trans D1.out
              have d2 := (cell_old hwi hlz (fun h => h) _).trans D2.out
              go_simp
              apply hK
              · rfl
              · conv => (lhs; whnf)
              · exact hwi
            simp only [put_lit, put_none]
            try dsimp only [List.set_cons_succ, List.set_cons_zero]
            apply Oblig.cons
            case h =>
              intro S w1 hwi hSi hd hcl
              apply StepOk.intro
              intro K hK
              have d1 := (cell_old hwi hlz (fun h => h) _).trans D1.out
              have d2 := (cell_old hwi hlz (fun h => h) _).trans D2.out
              go_simp
              apply hK
              · rfl
              · conv => (lhs; whnf)
              · exact hwi
            simp only [put_lit, put_none]
            try dsimp only [List.set_cons_succ, List.set_cons_zero]
            apply Oblig.cons
            case h =>
              intro S w1 hwi hSi hd hcl
              apply StepOk.intro
              intro K hK
              have d1 := (cell_old hwi hlz (fun h => h) _).trans D1.out
              have d2 := (cell_old hwi hlz (fun h => h) _).trans D2.out
              go_simp
              apply hK
              · rfl
              · conv => (lhs; whnf)
              · exact hwi
            simp only [put_lit, put_none]
            try dsimp only [List.set_cons_succ, List.set_cons_zero]
            apply Oblig.cons
            case h =>
              intro S w1 hwi hSi hd hcl
              apply StepOk.intro
              intro K hK
              have d1 := (cell_old hwi hlz (fun h => h) _).trans D1.out
              have d2 := (cell_old hwi hlz (fun h => h) _).trans D2.out
              go_simp
              refine (show Calls Try.prog 16 #[ptr x] w1 (Ret (.agg #[i64 0, i64 an, .bool ax, i64 0]) w1) from by have h := count_Ans _ (HXR.out.keep hwi (fun _ _ h => h)); rw [HAN.out, HAX.out] at h; exact h).mono ?_
              rintro e w2 ⟨rfl, hk⟩
              apply hK
              · rfl
              · conv => (lhs; whnf)
              · exact Keep0.step hwi hk
            simp only [put_lit, put_none]
            try dsimp only [List.set_cons_succ, List.set_cons_zero]
            apply Oblig.cons
            case h =>
              intro S w1 hwi hSi hd hcl
              apply StepOk.intro
              intro K hK
              have d1 := (cell_old hwi hlz (fun h => h) _).trans D1.out
              have d2 := (cell_old hwi hlz (fun h => h) _).trans D2.out
              go_simp
              apply hK
              · rfl
              · conv => (lhs; whnf)
              · exact hwi
            simp only [put_lit, put_none]
            try dsimp only [List.set_cons_succ, List.set_cons_zero]
            apply Oblig.cons
            case h =>
              intro S w1 hwi hSi hd hcl
              apply StepOk.intro
              intro K hK
              have d1 := (cell_old hwi hlz (fun h => h) _).trans D1.out
              have d2 := (cell_old hwi hlz (fun h => h) _).trans D2.out
              go_simp
              apply hK
              · rfl
              · conv => (lhs; whnf)
              · exact hwi
            simp only [put_lit, put_none]
            try dsimp only [List.set_cons_succ, List.set_cons_zero]
            apply Oblig.cons
            case h =>
              intro S w1 hwi hSi hd hcl
              apply StepOk.intro
              intro K hK
              have d1 := (cell_old hwi hlz (fun h => h) _).trans D1.out
              have d2 := (cell_old hwi hlz (fun h => h) _).trans D2.out
              go_simp
              apply hK
              · rfl
              · conv => (lhs; whnf)
              · exact hwi
            simp only [put_lit, put_none]
            try dsimp only [List.set_cons_succ, List.set_cons_zero]
            apply Oblig.cons
            case h =>
              intro S w1 hwi hSi hd hcl
              apply StepOk.intro
              intro K hK
              have d1 := (cell_old hwi hlz (fun h => h) _).trans D1.out
              have d2 := (cell_old hwi hlz (fun h => h) _).trans D2.out
              go_simp
              apply hK
              · rfl
              · conv => (lhs; whnf)
              · exact hwi
            simp only [put_lit, put_none]
            try dsimp only [List.set_cons_succ, List.set_cons_zero]
            apply Oblig.cons
            case h =>
              intro S w1 hwi hSi hd hcl
              apply StepOk.intro
              intro K hK
              have d1 := (cell_old hwi hlz (fun h => h) _).trans D1.out
              have d2 := (cell_old hwi hlz (fun h => h) _).trans D2.out
              go_simp
              apply hK
              · rfl
              · conv => (lhs; whnf)
              · exact hwi
            simp only [put_lit, put_none]
            try dsimp only [List.set_cons_succ, List.set_cons_zero]
            exact Oblig.nil
          case h0 =>
            exact (Keep.refl _ _).drew
          case hend =>
            intro S wx hwi hall
            have HKX := hid hwi
            clear hwi hall
            go_wp2_with fail
            go_roundw
            case rel => exact ⟨i + 1, by omega, by go_num, by rw [HSB.out], HKR.out.trans HKX.out (fun _ _ h => h)⟩
            case measure => simp [intOf]; omega
    · obtain rfl : pn = i := by omega
      clear hlt hi
      have hans := count_Ans _ HXR.out
      rw [HAN.out, HAX.out] at hans
      have HANS := hid hans
      clear hans
      have hsm : ax = false → smB pt.L b an pn = true ∧ (pn : Int) = (Q : Int) := by
        intro e
        rcases HJ4.out with h | ⟨h, i, hi, h1, h2⟩
        · rw [e] at h; cases h
        · exact ⟨smB_true hi h1 h2 pn (by rw [HLL.out] at hi; exact hi), by rw [HQ.out, HJ3.out, h]⟩
      generalize smB pt.L b an pn = sm at *
      have HSM := hid hsm
      clear hsm hk
      go_wp2_with fail
      refine HANS.out.mono ?_
      rintro e wA ⟨rfl, hk⟩
      have HKA : Hid (Keep0 w wA) := hid (Keep0.step (Keep0.step HK7.out HKR.out) hk)
      clear hk
      cases ax with
      | true =>
        go_wp2_with fail
        go_ret
        exact ⟨rfl, HKA.out⟩
      | false =>
        obtain ⟨e1, e2⟩ := HSM.out rfl
        subst e1
        have g4 : ((pn : Int) == (Q : Int)) = true := by rw [e2]; simp
        go_wp2_with fail
        go_ret
        exact ⟨rfl, HKA.out⟩
end Go.Proofs.Ytlkniogapdhcpaa
