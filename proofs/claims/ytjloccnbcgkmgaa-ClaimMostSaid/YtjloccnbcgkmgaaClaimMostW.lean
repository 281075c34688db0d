/- ClaimMost: at most two accesses for each ticket, whatever others do. -/
import Derived.Test.YtjloccnbcgkmgaaLawClaim
import Derived.Test.YtjloccnbcgkmgaaHeadClaim
import Derived.Test.YtjloccnbcgkmgaaClaimD
import Derived.Test.YtjloccnbcgkmgaaClaimK
import Derived.Test.YtjloccnbcgkmgaaClaimM
import Derived.Test.YtjloccnbcgkmgaaRowThree
import Derived.Test.YtjloccnbcgkmgaaLog
namespace Go.Proofs.Ytjloccnbcgkmgaa
open Go.RowKit
set_option linter.unusedVariables false
set_option linter.unusedSimpArgs false
set_option maxRecDepth 100000
theorem info_bool : (Try.prog.info? 4).map (fun i => (i.zero, i.size, i.bytes)) = some (some (.bool false), 1, 1) := by kernel_rfl
theorem made_bools (n : Nat) : madeCells (Value.bool false).cells n = (List.replicate n (Value.bool false)).toArray := by
  apply Array.ext
  · simp [madeCells]
  · intro i h1 h2
    have e : i % 1 = 0 := Nat.mod_one i
    simp [madeCells, Value.cells, e]
set_option maxHeartbeats 4000000 in
theorem claimMost_walk {w : World} {v0 v1 v2 : Value} (hc : ConfIn w v0) (hv : ∃ l, IntsIn w v1 l) (hpk : ∃ l, pksIn w v2 l) (st : Int) (hst : (Lit.int .u16 st).wf = true) : Calls Try.prog 6 #[v0, v1, v2, .int .u16 st] w (Ret (.bool true) w) := by
  have hst := bounds_u16 hst
  obtain ⟨t, s, g, l, r, k, P, L, PA, pc, LA, lc, rfl, hP, hL, hp1, hl1⟩ := hc
  obtain ⟨V, VA, vc, rfl, hv1, hV⟩ := hv
  obtain ⟨KK, KA, kc, rfl, hkk1, hKK⟩ := hpk
  have HKK := hid hKK
  clear hKK
  have HGD := hid (fun (w' : World) (hk : Keep0 w w') => law11_Good t s g l r k PA P pc LA L lc VA V.length vc KA KK.length kc w' (hP.keep hk) (hL.keep hk) hp1 hl1)
  have HLI := hid hL
  have HVI := hid hV
  clear hP hL hV hp1 hl1
  have HK0 : Hid (Keep0 w (w.alloc (.cells #[i64 t, i64 s, i64 g, i64 l, i64 r, i64 k, .slice PA P.length pc, .slice LA L.length lc] 24))) := hid ((Keep.refl _ _).alloc _)
  have hs0 : 0 ≤ st % 1001 := Int.emod_nonneg _ (by omega)
  have hs1 : st % 1001 < 1001 := Int.emod_lt_of_pos _ (by omega)
  obtain ⟨S, hS⟩ := Int.eq_ofNat_of_zero_le hs0
  have HS := hid hS
  have hS9 : S < 1001 := by omega
  clear hS hs0 hs1
  
  go_enter Try.func6, Try.ntmps6
  go_wp2_with fail
  have HB : Hid (Blk (w.alloc (.cells #[i64 t, i64 s, i64 g, i64 l, i64 r, i64 k, .slice PA P.length pc, .slice LA L.length lc] 24)) w.heap.size 24 [i64 t, i64 s, i64 g, i64 l, i64 r, i64 k, .slice PA P.length pc, .slice LA L.length lc]) := hid (Blk.made rfl rfl)
  have qHB := HB.out.k8
  refine (law11_head _).mono ?_
  rintro e w1 ⟨rfl, hk⟩
  have HK1 : Hid (Keep0 w w1) := hid (Keep0.step (by repeat (with_reducible first | exact Keep.refl _ _ | exact HK0.out | apply Keep.alloc | apply Keep.drewN | apply Keep.drew)) hk)
  have THB := hk.blk (show Blk _ _ _ _ from by repeat (with_reducible first | exact HB.out | apply Blk.alloc | apply Blk.drewN | apply Blk.drew)) (fun h => h)
  clear hk qHB HB HK0
  have HB := hid THB
  clear THB
  have qHB := HB.out.k8
  go_wp2_with fail
  refine (HGD.out _ HK1.out).mono ?_
  rintro e w2 ⟨rfl, hk⟩
  have HK2 : Hid (Keep0 w w2) := hid (Keep0.step (by repeat (with_reducible first | exact Keep.refl _ _ | exact HK1.out | apply Keep.alloc | apply Keep.drewN | apply Keep.drew)) hk)
  have THB := hk.blk (show Blk _ _ _ _ from by repeat (with_reducible first | exact HB.out | apply Blk.alloc | apply Blk.drewN | apply Blk.drew)) (fun h => h)
  clear hk qHB HB HK1
  have HB := hid THB
  clear THB
  have qHB := HB.out.k8
  clear HGD
  cases hgood : good11 t s g l r k P L V.length KK.length
  · go_wp2_with fail
    go_ret
    exact ⟨rfl, HK2.out⟩
  simp only [good11, Bool.and_eq_true, decide_eq_true_eq] at hgood
  obtain ⟨⟨hgood, hv40⟩, hk40⟩ := hgood
  have R := Right.of hgood
  clear hgood hv1
  obtain ⟨K, rfl⟩ := Int.eq_ofNat_of_zero_le (show 0 ≤ k by have := R.k; omega)
  have hs := R.sb
  have hp := R.p
  have hK : 1 ≤ K ∧ K ≤ 16 := by have := R.k; omega
  have hm4 := mul_bd 12 22 (show (0 : Int) ≤ P.length by omega) (by omega) (show 0 ≤ 6 + 2 * s by omega) (by omega)
  obtain ⟨q, hq⟩ : ∃ q : Nat, (q : Int) = P.length * (6 + 2 * s) := ⟨((P.length : Int) * (6 + 2 * s)).toNat, by omega⟩
  have hq264 : q ≤ 264 := by omega
  have HWO := hid (fun (w' : World) (hk : Keep0 w w') => law11_words t s g l r K q PA P pc LA L lc VA V vc w' (HLI.out.keep hk) (HVI.out.keep hk) R hq hv40)
  have hln : q + 2 * K = (words11 s K P.length q L V).length := by rw [words11, tkW_length, freshW_length]; omega
  have HQ := hid hq
  have HR := hid R
  clear hm4 R hq HLI HVI
  generalize words11 s K P.length q L V = WW at *
  have hWm : WW.length ≤ 10000 := by omega
  have hW0 : 0 < WW.length := by omega
  have hk2s := HK2.out.size
  go_wp2_with fail
  refine (HWO.out _ HK2.out).mono ?_
  rintro e w3 ⟨WA, Wc, rfl, how, hk⟩
  have HK3 : Hid (Keep0 w w3) := hid (Keep0.step (by repeat (with_reducible first | exact Keep.refl _ _ | exact HK2.out | apply Keep.alloc | apply Keep.drewN | apply Keep.drew)) hk)
  have THB := hk.blk (show Blk _ _ _ _ from by repeat (with_reducible first | exact HB.out | apply Blk.alloc | apply Blk.drewN | apply Blk.drew)) (fun h => h)
  clear hk qHB HB HK2
  have HB := hid THB
  clear THB
  have qHB := HB.out.k8
  obtain ⟨wg, rfl, hwg, hwge⟩ := ints_own how (by omega) rfl
  have HWG := hid hwg
  clear hwg HWO
  have hwz : w.heap.size ≤ wg := Nat.le_trans hk2s hwge
  clear hk2s
  clear how hwge
  have hwg3 := HWG.out.lt
  have hk3s := HK3.out.size
  go_wp2_with fail
  refine (law8_Laid w.heap.size _ _ _ WW HWG.out.at_ hWm HK3.out.size).mono ?_
  rintro e w4 ⟨m, a, lv, rfl, hm, hk, hzm, hza⟩
  have HK4 : Hid (Keep0 w w4) := hid (Keep0.step (by repeat (with_reducible first | exact Keep.refl _ _ | exact HK3.out | apply Keep.alloc | apply Keep.drewN | apply Keep.drew)) hk)
  have THB := hk.blk (show Blk _ _ _ _ from by repeat (with_reducible first | exact HB.out | apply Blk.alloc | apply Blk.drewN | apply Blk.drew)) (fun h => h)
  have THWG := hk.ints (show Ints _ _ _ from by repeat (with_reducible first | exact HWG.out | apply Ints.alloc | apply Ints.drewN | apply Ints.drew)) (fun h => h)
  clear hk qHB HB HWG HK3
  have HB := hid THB
  clear THB
  have qHB := HB.out.k8
  have HWG := hid THWG
  clear THWG
  have HM := hid hm
  have hzm' : w.heap.size ≤ m := Nat.le_trans hk3s hzm
  have hza' : w.heap.size ≤ a := Nat.le_trans hk3s hza
  clear hk3s
  have hwgm : wg ≠ a := by omega
  have hwgm2 : wg ≠ m := by omega
  clear hm hzm hza hwg3
  clear HWG
  go_wp2_with fail
  rw [HS.out]
  have haz := HM.out.words.lt
  have hks := HK4.out.size
  refine (claim_New ⟨t, s, g, l, r, PA, P.length, pc, LA, L.length, lc⟩ K (S) _ hK (by omega)).mono ?_
  rintro e w5 ⟨x, gl, cc, rfl, hx, hgl, hcap, hk, hcl, hr⟩
  have HK5 : Hid (Keep0 w w5) := hid (Keep0.step (by repeat (with_reducible first | exact Keep.refl _ _ | exact HK4.out | apply Keep.alloc | apply Keep.drewN | apply Keep.drew)) hk)
  have THB := hk.blk (show Blk _ _ _ _ from by repeat (with_reducible first | exact HB.out | apply Blk.alloc | apply Blk.drewN | apply Blk.drew)) (fun h => h)
  have THM := MemAt.same (by repeat (with_reducible first | exact HM.out | apply MemAt.alloc | apply MemAt.drew)) hk
  clear hk qHB HB HM HK4
  have HB := hid THB
  clear THB
  have qHB := HB.out.k8
  have HM := hid THM
  clear THM
  have hga : gl ≠ a := by omega
  have HX := hid (hcl WW [])
  have HR := hid hr
  have HCO : Hid (COk ⟨t, s, g, l, r, PA, P.length, pc, LA, L.length, lc⟩ K q cc) := hid ⟨HQ.out, hs, (by show P.length ≤ 1000; omega), hcap⟩
  have hzx : w.heap.size ≤ x := Nat.le_trans hks hx
  clear hks haz hx hgl hcap hcl hr
  go_wp2_with fail
  have hml : ∀ k, MF m a lv k → k < w5.heap.size := by rintro k (rfl | rfl | h); exact HM.out.mem.lt; exact HM.out.words.lt; exact (HM.out.log.lt k h).2
  have hxl := HX.out.lt
  refine (law11_pokes t s g l r K q PA P.length pc LA L.length lc KA KK kc _ (HKK.out.keep HK5.out) hk40 hK hs (by omega) HQ.out).mono ?_
  rintro e w6 ⟨QA, qc, rfl, hpk, hk, hqa⟩
  have HK6 : Hid (Keep0 w w6) := hid (Keep0.step (by repeat (with_reducible first | exact Keep.refl _ _ | exact HK5.out | apply Keep.alloc | apply Keep.drewN | apply Keep.drew)) hk)
  have THB := hk.blk (show Blk _ _ _ _ from by repeat (with_reducible first | exact HB.out | apply Blk.alloc | apply Blk.drewN | apply Blk.drew)) (fun h => h)
  have THM := MemAt.same (by repeat (with_reducible first | exact HM.out | apply MemAt.alloc | apply MemAt.drew)) hk
  have THX := ClAt.keep (show ClAt _ _ _ _ _ _ _ _ from by repeat (with_reducible first | exact HX.out | apply ClAt.alloc | apply ClAt.drewN | apply ClAt.drew)) hk (fun h => h)
  have THR := hk.ints (show Ints _ _ _ from by repeat (with_reducible first | exact HR.out | apply Ints.alloc | apply Ints.drewN | apply Ints.drew)) (fun h => h)
  clear hk qHB HB HM HX HR HK5
  have HB := hid THB
  clear THB
  have qHB := HB.out.k8
  have HM := hid THM
  clear THM
  have HX := hid THX
  clear THX
  have HR := hid THR
  clear THR
  have HPK := hid hpk
  have HQA := hid (fun (b o : Nat) (e : QA = some ⟨b, o, none⟩) => (show b ≠ m ∧ b ≠ a ∧ b ≠ x ∧ lv.ownBlock ≠ some b from by have h := hqa b o e; have h1 := hml m (Or.inl rfl); have h2 := hml a (Or.inr (Or.inl rfl)); exact ⟨by omega, by omega, by omega, fun e2 => by have := hml b (Or.inr (Or.inr e2)); omega⟩))
  clear hpk hqa hml hxl
  go_wp2_with fail
  have hci : CInv K q ⟨WW, [], 0, false, 0, 0, 0, 0⟩ := CInv.start (by omega) (by omega) hK
  obtain ⟨kb, ko, hkb, hkc⟩ := HPK.out.at_
  have hp := play_claim (B := w.heap.size) (w := w6) (m := m) (a := a) (x := x) (lv := lv) (K := K) (s := S) (q := q) ⟨WW, [], 0, false, 0, 0, 0, 0⟩ (KK.map (fk11 K q)) QA kb ko qc (100) HM.out HX.out HR.out hga hci HCO.out (by simp) (by omega) (by rw [List.length_map]; omega) (fun h => by obtain ⟨e, hlt⟩ := hkb h; have h2 := HQA.out kb ko e; exact ⟨e, hlt, h2.2.1 |> fun _ => h2.1, h2.2.1, h2.2.2.1, h2.2.2.2⟩) hkc
  rw [List.length_map] at hp
  clear hkb hkc HQA
  rw [show (CS.mk WW [] 0 false 0 0 0 0).W.length = WW.length from rfl] at hp
  have hcp := cPlay (K := K) (s := S) (q := q) WW.length (KK.map (fk11 K q)) (100) 0 ⟨WW, [], 0, false, 0, 0, 0, 0⟩ rfl rfl hci
  have hld := cPlay_lds (K := K) (s := S) (q := q) WW.length (KK.map (fk11 K q)) (100) 0 ⟨WW, [], 0, false, 0, 0, 0, 0⟩ hci ⟨Nat.zero_le _, rfl⟩
  generalize playF (cStp K (S) q) cPk WW.length (KK.map (fk11 K q)) (100) 0 ⟨WW, [], 0, false, 0, 0, 0, 0⟩ = pf at *
  obtain ⟨pt, pn, pb⟩ := pf
  simp only at hp
  refine hp.mono ?_
  rintro e w7 ⟨rfl, ⟨kk, lv', hm, ho, hx, _, _, hin, _, hr, _⟩, hk⟩
  have THB := clplay_keeps HB.out HM.out HX.out (by decide) (by decide) (by decide) (by decide) hk
  clear HPK
  have HK7 : Hid (Keep0 w w7) := hid (clplay_far HM.out hzx hk HK6.out rfl)
  clear hp ho HM HX HR HK6 hk qHB HB
  obtain ⟨lv, hlv⟩ : ∃ v, v = lv' := ⟨_, rfl⟩
  subst hlv
  have HM := hid hm
  have HX := hid hx
  have HI := hid hin
  clear hm hx hr hin hci
  have HB := hid THB
  clear THB
  have qHB := HB.out.k8
  have hle := hcp.le
  have hlg := hcp.log
  have hnd := hld.nodup
  have hge := hcp.ge (by decide)
  have hne := hcp.need
  have hpb : pb = true := by
    cases pb with
    | true => rfl
    | false =>
      obtain ⟨h1, h2⟩ := hcp.not rfl
      have h3 : cNeed K (⟨WW, [], 0, false, 0, 0, 0, 0⟩ : CS) = 2 * K := by simp [cNeed]
      simp only at h2 hne
      omega
  subst hpb
  have h2K : pn ≤ 2 * K := by
    have h3 : cNeed K (⟨WW, [], 0, false, 0, 0, 0, 0⟩ : CS) = 2 * K := by simp [cNeed]
    simp only at hne
    omega
  simp only at hle hlg hge
  have HND := hid hnd
  have HLG := hid hlg
  clear hcp hld hnd hne hlg
  obtain ⟨ib0, hib, hb0, hb1, hb2⟩ := info_parts info_bool
  have hmk := fun w => run_make (P := Try.prog) w 34 4 ib0 (.bool false) Try.underlying34 hib hb0 .i64 .i64 16 16 (by omega) (by omega) (by rw [hb2]; omega) (by omega)
  simp only [hb1, Nat.mul_one, made_bools, show (16 : Int).toNat = 16 from rfl] at hmk
  clear hib hb0 hb1 hb2
  go_wp2_with fail
  have HHB := hid (show Blk (w7.alloc (.cells #[.bool false, .bool false, .bool false, .bool false, .bool false, .bool false, .bool false, .bool false, .bool false, .bool false, .bool false, .bool false, .bool false, .bool false, .bool false, .bool false] 4)) w7.heap.size 4 (bls (List.replicate 16 false)) from by rw [bls_rep]; exact Blk.made rfl (by kernel_rfl))
  have hhz : w.heap.size ≤ w7.heap.size := HK7.out.size
  have HM8 := hid (HM.out.same ((Keep.refl _ w7).alloc (.cells #[.bool false, .bool false, .bool false, .bool false, .bool false, .bool false, .bool false, .bool false, .bool false, .bool false, .bool false, .bool false, .bool false, .bool false, .bool false, .bool false] 4)))
  have HB8 := hid (HB.out.alloc (.cells #[.bool false, .bool false, .bool false, .bool false, .bool false, .bool false, .bool false, .bool false, .bool false, .bool false, .bool false, .bool false, .bool false, .bool false, .bool false, .bool false] 4))
  have HK8 := hid (HK7.out.alloc (.cells #[.bool false, .bool false, .bool false, .bool false, .bool false, .bool false, .bool false, .bool false, .bool false, .bool false, .bool false, .bool false, .bool false, .bool false, .bool false, .bool false] 4))
  generalize hhb : w7.heap.size = hb at *
  generalize w7.alloc (.cells #[.bool false, .bool false, .bool false, .bool false, .bool false, .bool false, .bool false, .bool false, .bool false, .bool false, .bool false, .bool false, .bool false, .bool false, .bool false, .bool false] 4) = w8 at *
  clear hmk HM HB HK7 hhb HX HI qHB
  have hmlog := mem_Log HM8.out (by rw [HLG.out]; omega)
  rw [HLG.out] at hmlog
  refine hmlog.mono ?_
  rintro e w9 ⟨lga, lgc, rfl, hacc, hk⟩
  have HAC := hid hacc
  have HH9 := hid (hk.blk HHB.out (fun h => h))
  have HB9 := hid (hk.blk HB8.out (fun h => h))
  have HK9 : Hid (Keep0 w w9) := hid (Keep0.step HK8.out hk)
  clear hmlog hacc hk HHB HB8 HK8 HM8
  go_wp2_with fail
  have hkk9 : Blk w9 hb 4 (bls (List.replicate 16 false)) := HH9.out
  go_loopw [16] (fun v wr => ∃ (i : Nat) (H : List Bool), i ≤ pn ∧ v = .int .i64 (i : Int) ∧ Blk wr hb 4 (bls H) ∧ MInv K q pt.L i 0 H ∧ Keep (fun k => k = hb) w9 wr) (fun v _ => pn - (intOf v).toNat)
  case atStart => exact ⟨0, _, Nat.zero_le _, rfl, hkk9, MInv.start _ _ _, Keep.refl _ _⟩
  case round =>
    obtain ⟨i, H, hi, rfl, hbb, hmi, hk⟩ := hrel
    have HH := hid hbb
    have HMI := hid hmi
    have HKR := hid hk
    clear hbb hmi hk hkk9
    by_cases hlt : i < pn
    · have hil : i < pt.L.length := by rw [HLG.out]; exact hlt
      obtain ⟨lb, lo, hla, hlc⟩ : ∃ b o, lga = some ⟨b, o, none⟩ ∧ ∀ n u, (accs pt.L)[n]? = some u → w9.cell? ⟨b, o + n, none⟩ = some u := by
        rcases HAC.out with h | h
        · rw [h] at hil; cases hil
        · exact h
      subst hla
      obtain ⟨xk, xw, xa, xb, xo, hx⟩ : ∃ xk xw xa xb xo, pt.L[i] = Acc.mk xk xw xa xb xo := ⟨_, _, _, _, _, rfl⟩
      have q0 : w9.cell? ⟨lb, lo + i * 5, none⟩ = some (i64 xk) := by have h := hlc (i * 5 + 0) (i64 xk) (by rw [accs_get pt.L i hil 0 (by omega), hx]; rfl); simpa [Nat.add_assoc] using h
      have q1 : w9.cell? ⟨lb, lo + i * 5 + 1, none⟩ = some (i64 xw) := by have h := hlc (i * 5 + 1) (i64 xw) (by rw [accs_get pt.L i hil 1 (by omega), hx]; rfl); simpa [Nat.add_assoc] using h
      have hl9 := World.block_lt_of_cell? _ _ q0
      simp only at hl9
      have hlh : ¬ lb = hb := by
        rintro rfl
        have h1 := HH9.out.cell (lo + i * 5)
        rw [q0] at h1
        have h2 := List.mem_of_getElem? h1.symm
        simp [bls] at h2
      have Q0 := hid q0
      have Q1 := hid q1
      have HX := hid hx
      clear q0 q1 hlc hx
      go_wp2_with fail
      go_loopw [17] (fun v ws => ∃ (kt : Nat) (H2 : List Bool), kt ≤ K ∧ v = .int .i64 (kt : Int) ∧ Blk ws hb 4 (bls H2) ∧ MInv K q pt.L i kt H2 ∧ Keep (fun k => k = hb) w9 ws) (fun v _ => K - (intOf v).toNat)
      case atStart => exact ⟨0, H, Nat.zero_le _, rfl, HH.out, HMI.out, HKR.out⟩
      case round =>
        obtain ⟨kt, H2, hkt, rfl, hbb, hmi, hk⟩ := hrel
        obtain ⟨ws, hws⟩ : ∃ v, v = wr := ⟨_, rfl⟩
        subst hws
        have HHS := hid hbb
        have HKS := hid hk
        have HBS := hid (hk.blk HB9.out (HB9.out.ne HH9.out (by decide)))
        have hlz : lb < ws.heap.size := Nat.lt_of_lt_of_le hl9 hk.size
        have P0 := hid ((cell_old hk hl9 hlh _).trans Q0.out)
        have P1 := hid ((cell_old hk hl9 hlh _).trans Q1.out)
        have qbs := HBS.out.k8
        clear hbb hk
        by_cases hltk : kt < K
        · have HPT := hid (fun (w' : World) => plan_Ticket t s g l r (K : Int) PA P.length pc LA L.length lc (kt : Int) w' hs.1 hs.2 (by omega) (by omega) (by omega))
          rw [← HQ.out, show (q : Int) + 2 * (kt : Int) = ((q + 2 * kt : Nat) : Int) by push_cast; rfl] at HPT
          by_cases hm : xw = ((q + 2 * kt : Nat) : Int) ∧ xk = 1
          · obtain ⟨rfl, rfl⟩ := hm
            obtain ⟨⟨hkl, hfl⟩, hyes⟩ := hmi.yes hil hltk hK.2 (by rw [HX.out]) (by rw [HX.out]) HND.out
            have HFL := hid hfl
            have HYES := hid hyes
            have h16 : kt < 16 := by omega
            clear hmi hfl hyes
            generalize q + 2 * kt = p at *
            go_wp2_with fail
            apply wp_region_text (WI := fun S wx => Keep0 ws wx) (by kernel_rfl) (by kernel_rfl)
            case hob =>
              apply Oblig.cons
              case h =>
                intro S w1 hwi hSi hd hcl
                apply StepOk.intro
                intro K hK
                have cb := (hwi.blk HBS.out (fun h => h)).k8
                have p0 := (cell_old hwi hlz (fun h => h) _).trans P0.out
                have p1 := (cell_old hwi hlz (fun h => h) _).trans P1.out
                go_simp
                apply hK
                · rfl
                · conv => (lhs; whnf)
                · exact hwi
              simp only [put_lit, put_none]
              try dsimp only [List.set_cons_succ, List.set_cons_zero]
              apply Oblig.cons
              case h =>
                intro S w1 hwi hSi hd hcl
                apply StepOk.intro
                intro K hK
                have cb := (hwi.blk HBS.out (fun h => h)).k8
                have p0 := (cell_old hwi hlz (fun h => h) _).trans P0.out
                have p1 := (cell_old hwi hlz (fun h => h) _).trans P1.out
                go_simp
                apply hK
                · rfl
                · conv => (lhs; whnf)
                · exact hwi
              simp only [put_lit, put_none]
              try dsimp only [List.set_cons_succ, List.set_cons_zero]
              apply Oblig.cons
              case h =>
                intro S w1 hwi hSi hd hcl
                apply StepOk.intro
                intro K hK
                have cb := (hwi.blk HBS.out (fun h => h)).k8
                have p0 := (cell_old hwi hlz (fun h => h) _).trans P0.out
                have p1 := (cell_old hwi hlz (fun h => h) _).trans P1.out
                go_simp
                apply hK
                · rfl
                · conv => (lhs; whnf)
                · exact hwi
              simp only [put_lit, put_none]
              try dsimp only [List.set_cons_succ, List.set_cons_zero]
              apply Oblig.cons
              case h =>
                intro S w1 hwi hSi hd hcl
                apply StepOk.intro
                intro K hK
                have cb := (hwi.blk HBS.out (fun h => h)).k8
                have p0 := (cell_old hwi hlz (fun h => h) _).trans P0.out
                have p1 := (cell_old hwi hlz (fun h => h) _).trans P1.out
                go_simp
                apply hK
                · rfl
                · conv => (lhs; whnf)
                · exact hwi
              simp only [put_lit, put_none]
              try dsimp only [List.set_cons_succ, List.set_cons_zero]
              apply Oblig.cons
              case h =>
                intro S w1 hwi hSi hd hcl
                apply StepOk.intro
                intro K hK
                have cb := (hwi.blk HBS.out (fun h => h)).k8
                have p0 := (cell_old hwi hlz (fun h => h) _).trans P0.out
                have p1 := (cell_old hwi hlz (fun h => h) _).trans P1.out
                go_simp
                apply hK
                · rfl
                · conv => (lhs; whnf)
                · exact hwi
              simp only [put_lit, put_none]
              try dsimp only [List.set_cons_succ, List.set_cons_zero]
              apply Oblig.cons
              case h =>
                intro S w1 hwi hSi hd hcl
                apply StepOk.intro
                intro K hK
                have cb := (hwi.blk HBS.out (fun h => h)).k8
                have p0 := (cell_old hwi hlz (fun h => h) _).trans P0.out
                have p1 := (cell_old hwi hlz (fun h => h) _).trans P1.out
                go_simp
                apply hK
                · rfl
                · conv => (lhs; whnf)
                · exact hwi
              simp only [put_lit, put_none]
              try dsimp only [List.set_cons_succ, List.set_cons_zero]
              apply Oblig.cons
              case h =>
                intro S w1 hwi hSi hd hcl
                apply StepOk.intro
                intro K hK
                have cb := (hwi.blk HBS.out (fun h => h)).k8
                have p0 := (cell_old hwi hlz (fun h => h) _).trans P0.out
                have p1 := (cell_old hwi hlz (fun h => h) _).trans P1.out
                go_simp
                apply hK
                · rfl
                · conv => (lhs; whnf)
                · exact hwi
              simp only [put_lit, put_none]
              try dsimp only [List.set_cons_succ, List.set_cons_zero]
              apply Oblig.cons
              case h =>
                intro S w1 hwi hSi hd hcl
                apply StepOk.intro
                intro K hK
                have cb := (hwi.blk HBS.out (fun h => h)).k8
                have p0 := (cell_old hwi hlz (fun h => h) _).trans P0.out
                have p1 := (cell_old hwi hlz (fun h => h) _).trans P1.out
                go_simp
                refine (HPT.out _).mono ?_
                rintro e w2 ⟨rfl, hk⟩
                apply hK
                · rfl
                · conv => (lhs; whnf)
                · exact hwi.trans hk (fun _ _ h => h)
              simp only [put_lit, put_none]
              try dsimp only [List.set_cons_succ, List.set_cons_zero]
              apply Oblig.cons
              case h =>
                intro S w1 hwi hSi hd hcl
                apply StepOk.intro
                intro K hK
                have cb := (hwi.blk HBS.out (fun h => h)).k8
                have p0 := (cell_old hwi hlz (fun h => h) _).trans P0.out
                have p1 := (cell_old hwi hlz (fun h => h) _).trans P1.out
                go_simp
                apply hK
                · rfl
                · conv => (lhs; whnf)
                · exact hwi
              simp only [put_lit, put_none]
              try dsimp only [List.set_cons_succ, List.set_cons_zero]
              apply Oblig.cons
              case h =>
                intro S w1 hwi hSi hd hcl
                apply StepOk.intro
                intro K hK
                have cb := (hwi.blk HBS.out (fun h => h)).k8
                have p0 := (cell_old hwi hlz (fun h => h) _).trans P0.out
                have p1 := (cell_old hwi hlz (fun h => h) _).trans P1.out
                go_simp
                apply hK
                · rfl
                · conv => (lhs; whnf)
                · exact hwi
              simp only [put_lit, put_none]
              try dsimp only [List.set_cons_succ, List.set_cons_zero]
              apply Oblig.cons
              case h =>
                intro S w1 hwi hSi hd hcl
                apply StepOk.intro
                intro K hK
                have cb := (hwi.blk HBS.out (fun h => h)).k8
                have p0 := (cell_old hwi hlz (fun h => h) _).trans P0.out
                have p1 := (cell_old hwi hlz (fun h => h) _).trans P1.out
                go_simp
                apply hK
                · rfl
                · conv => (lhs; whnf)
                · exact hwi
              simp only [put_lit, put_none]
              try dsimp only [List.set_cons_succ, List.set_cons_zero]
              apply Oblig.cons
              case h =>
                intro S w1 hwi hSi hd hcl
                apply StepOk.intro
                intro K hK
                have cb := (hwi.blk HBS.out (fun h => h)).k8
                have p0 := (cell_old hwi hlz (fun h => h) _).trans P0.out
                have p1 := (cell_old hwi hlz (fun h => h) _).trans P1.out
                go_simp
                apply hK
                · rfl
                · conv => (lhs; whnf)
                · exact hwi
              simp only [put_lit, put_none]
              try dsimp only [List.set_cons_succ, List.set_cons_zero]
              apply Oblig.cons
              case h =>
                intro S w1 hwi hSi hd hcl
                apply StepOk.intro
                intro K hK
                have cb := (hwi.blk HBS.out (fun h => h)).k8
                have p0 := (cell_old hwi hlz (fun h => h) _).trans P0.out
                have p1 := (cell_old hwi hlz (fun h => h) _).trans P1.out
                go_simp
                apply hK
                · rfl
                · conv => (lhs; whnf)
                · exact hwi
              simp only [put_lit, put_none]
              try dsimp only [List.set_cons_succ, List.set_cons_zero]
              apply Oblig.cons
              case h =>
                intro S w1 hwi hSi hd hcl
                apply StepOk.intro
                intro K hK
                have cb := (hwi.blk HBS.out (fun h => h)).k8
                have p0 := (cell_old hwi hlz (fun h => h) _).trans P0.out
                have p1 := (cell_old hwi hlz (fun h => h) _).trans P1.out
                go_simp
                apply hK
                · rfl
                · conv => (lhs; whnf)
                · exact hwi
              simp only [put_lit, put_none]
              try dsimp only [List.set_cons_succ, List.set_cons_zero]
              apply Oblig.cons
              case h =>
                intro S w1 hwi hSi hd hcl
                apply StepOk.intro
                intro K hK
                have cb := (hwi.blk HBS.out (fun h => h)).k8
                have p0 := (cell_old hwi hlz (fun h => h) _).trans P0.out
                have p1 := (cell_old hwi hlz (fun h => h) _).trans P1.out
                go_simp
                apply hK
                · rfl
                · conv => (lhs; whnf)
                · exact hwi
              simp only [put_lit, put_none]
              try dsimp only [List.set_cons_succ, List.set_cons_zero]
              apply Oblig.cons
              case h =>
                intro S w1 hwi hSi hd hcl
                apply StepOk.intro
                intro K hK
                have cb := (hwi.blk HBS.out (fun h => h)).k8
                have p0 := (cell_old hwi hlz (fun h => h) _).trans P0.out
                have p1 := (cell_old hwi hlz (fun h => h) _).trans P1.out
                go_simp
                apply hK
                · rfl
                · conv => (lhs; whnf)
                · exact hwi
              simp only [put_lit, put_none]
              try dsimp only [List.set_cons_succ, List.set_cons_zero]
              apply Oblig.cons
              case h =>
                intro S w1 hwi hSi hd hcl
                apply StepOk.intro
                intro K hK
                have cb := (hwi.blk HBS.out (fun h => h)).k8
                have p0 := (cell_old hwi hlz (fun h => h) _).trans P0.out
                have p1 := (cell_old hwi hlz (fun h => h) _).trans P1.out
                go_simp
                apply hK
                · rfl
                · conv => (lhs; whnf)
                · exact hwi
              simp only [put_lit, put_none]
              try dsimp only [List.set_cons_succ, List.set_cons_zero]
              exact Oblig.nil
            case h0 =>
              exact (Keep.refl _ _).drew
            case hend =>
              intro S wx hwi hall
              have HKX := hid hwi
              have HHX := hid (hwi.blk HHS.out (fun h => h))
              have HKT := hid (HKS.out.trans (hwi.to (S := fun k => k = hb)) (fun _ _ h => h))
              clear hwi hall
              have c1 := HHX.out.cell kt
              rw [bls_get hkl, HFL.out] at c1
              have c2 := HHX.out.frozen kt
              have c3 := HHX.out.lt
              go_wp2_with fail
              go_roundw
              case rel => exact ⟨kt + 1, H2.set kt true, by omega, by go_num, by rw [← bls_set]; exact HHX.out.set kt _, HYES.out, HKT.out.set ⟨hb, kt, none⟩ (.bool true) (fun _ => rfl)⟩
              case measure => first | (simp [intOf]; done) | (simp [intOf]; omega)
          · have hno := hmi.no hil (by rw [HX.out]; exact hm)
            have HNO := hid hno
            clear hmi hno
            by_cases hw : xw = ((q + 2 * kt : Nat) : Int)
            · subst hw
              have y6 : (xk == 1) = false := by simpa using hm
              clear hm
              generalize q + 2 * kt = p at *
              go_wp2_with fail
              apply wp_region_text (WI := fun S wx => Keep0 ws wx) (by kernel_rfl) (by kernel_rfl)
              case hob =>
                apply Oblig.cons
                case h =>
                  intro S w1 hwi hSi hd hcl
                  apply StepOk.intro
                  intro K hK
                  have cb := (hwi.blk HBS.out (fun h => h)).k8
                  have p0 := (cell_old hwi hlz (fun h => h) _).trans P0.out
                  have p1 := (cell_old hwi hlz (fun h => h) _).trans P1.out
                  go_simp
                  apply hK
                  · rfl
                  · conv => (lhs; whnf)
                  · exact hwi
                simp only [put_lit, put_none]
                try dsimp only [List.set_cons_succ, List.set_cons_zero]
                apply Oblig.cons
                case h =>
                  intro S w1 hwi hSi hd hcl
                  apply StepOk.intro
                  intro K hK
                  have cb := (hwi.blk HBS.out (fun h => h)).k8
                  have p0 := (cell_old hwi hlz (fun h => h) _).trans P0.out
                  have p1 := (cell_old hwi hlz (fun h => h) _).trans P1.out
                  go_simp
                  apply hK
                  · rfl
                  · conv => (lhs; whnf)
                  · exact hwi
                simp only [put_lit, put_none]
                try dsimp only [List.set_cons_succ, List.set_cons_zero]
                apply Oblig.cons
                case h =>
                  intro S w1 hwi hSi hd hcl
                  apply StepOk.intro
                  intro K hK
                  have cb := (hwi.blk HBS.out (fun h => h)).k8
                  have p0 := (cell_old hwi hlz (fun h => h) _).trans P0.out
                  have p1 := (cell_old hwi hlz (fun h => h) _).trans P1.out
                  go_simp
                  apply hK
                  · rfl
                  · conv => (lhs; whnf)
                  · exact hwi
                simp only [put_lit, put_none]
                try dsimp only [List.set_cons_succ, List.set_cons_zero]
                apply Oblig.cons
                case h =>
                  intro S w1 hwi hSi hd hcl
                  apply StepOk.intro
                  intro K hK
                  have cb := (hwi.blk HBS.out (fun h => h)).k8
                  have p0 := (cell_old hwi hlz (fun h => h) _).trans P0.out
                  have p1 := (cell_old hwi hlz (fun h => h) _).trans P1.out
                  go_simp
                  apply hK
                  · rfl
                  · conv => (lhs; whnf)
                  · exact hwi
                simp only [put_lit, put_none]
                try dsimp only [List.set_cons_succ, List.set_cons_zero]
                apply Oblig.cons
                case h =>
                  intro S w1 hwi hSi hd hcl
                  apply StepOk.intro
                  intro K hK
                  have cb := (hwi.blk HBS.out (fun h => h)).k8
                  have p0 := (cell_old hwi hlz (fun h => h) _).trans P0.out
                  have p1 := (cell_old hwi hlz (fun h => h) _).trans P1.out
                  go_simp
                  apply hK
                  · rfl
                  · conv => (lhs; whnf)
                  · exact hwi
                simp only [put_lit, put_none]
                try dsimp only [List.set_cons_succ, List.set_cons_zero]
                apply Oblig.cons
                case h =>
                  intro S w1 hwi hSi hd hcl
                  apply StepOk.intro
                  intro K hK
                  have cb := (hwi.blk HBS.out (fun h => h)).k8
                  have p0 := (cell_old hwi hlz (fun h => h) _).trans P0.out
                  have p1 := (cell_old hwi hlz (fun h => h) _).trans P1.out
                  go_simp
                  apply hK
                  · rfl
                  · conv => (lhs; whnf)
                  · exact hwi
                simp only [put_lit, put_none]
                try dsimp only [List.set_cons_succ, List.set_cons_zero]
                apply Oblig.cons
                case h =>
                  intro S w1 hwi hSi hd hcl
                  apply StepOk.intro
                  intro K hK
                  have cb := (hwi.blk HBS.out (fun h => h)).k8
                  have p0 := (cell_old hwi hlz (fun h => h) _).trans P0.out
                  have p1 := (cell_old hwi hlz (fun h => h) _).trans P1.out
                  go_simp
                  apply hK
                  · rfl
                  · conv => (lhs; whnf)
                  · exact hwi
                simp only [put_lit, put_none]
                try dsimp only [List.set_cons_succ, List.set_cons_zero]
                apply Oblig.cons
                case h =>
                  intro S w1 hwi hSi hd hcl
                  apply StepOk.intro
                  intro K hK
                  have cb := (hwi.blk HBS.out (fun h => h)).k8
                  have p0 := (cell_old hwi hlz (fun h => h) _).trans P0.out
                  have p1 := (cell_old hwi hlz (fun h => h) _).trans P1.out
                  go_simp
                  refine (HPT.out _).mono ?_
                  rintro e w2 ⟨rfl, hk⟩
                  apply hK
                  · rfl
                  · conv => (lhs; whnf)
                  · exact hwi.trans hk (fun _ _ h => h)
                simp only [put_lit, put_none]
                try dsimp only [List.set_cons_succ, List.set_cons_zero]
                apply Oblig.cons
                case h =>
                  intro S w1 hwi hSi hd hcl
                  apply StepOk.intro
                  intro K hK
                  have cb := (hwi.blk HBS.out (fun h => h)).k8
                  have p0 := (cell_old hwi hlz (fun h => h) _).trans P0.out
                  have p1 := (cell_old hwi hlz (fun h => h) _).trans P1.out
                  go_simp
                  apply hK
                  · rfl
                  · conv => (lhs; whnf)
                  · exact hwi
                simp only [put_lit, put_none]
                try dsimp only [List.set_cons_succ, List.set_cons_zero]
                apply Oblig.cons
                case h =>
                  intro S w1 hwi hSi hd hcl
                  apply StepOk.intro
                  intro K hK
                  have cb := (hwi.blk HBS.out (fun h => h)).k8
                  have p0 := (cell_old hwi hlz (fun h => h) _).trans P0.out
                  have p1 := (cell_old hwi hlz (fun h => h) _).trans P1.out
                  go_simp
                  apply hK
                  · rfl
                  · conv => (lhs; whnf)
                  · exact hwi
                simp only [put_lit, put_none]
                try dsimp only [List.set_cons_succ, List.set_cons_zero]
                apply Oblig.cons
                case h =>
                  intro S w1 hwi hSi hd hcl
                  apply StepOk.intro
                  intro K hK
                  have cb := (hwi.blk HBS.out (fun h => h)).k8
                  have p0 := (cell_old hwi hlz (fun h => h) _).trans P0.out
                  have p1 := (cell_old hwi hlz (fun h => h) _).trans P1.out
                  go_simp
                  apply hK
                  · rfl
                  · conv => (lhs; whnf)
                  · exact hwi
                simp only [put_lit, put_none]
                try dsimp only [List.set_cons_succ, List.set_cons_zero]
                apply Oblig.cons
                case h =>
                  intro S w1 hwi hSi hd hcl
                  apply StepOk.intro
                  intro K hK
                  have cb := (hwi.blk HBS.out (fun h => h)).k8
                  have p0 := (cell_old hwi hlz (fun h => h) _).trans P0.out
                  have p1 := (cell_old hwi hlz (fun h => h) _).trans P1.out
                  go_simp
                  apply hK
                  · rfl
                  · conv => (lhs; whnf)
                  · exact hwi
                simp only [put_lit, put_none]
                try dsimp only [List.set_cons_succ, List.set_cons_zero]
                apply Oblig.cons
                case h =>
                  intro S w1 hwi hSi hd hcl
                  apply StepOk.intro
                  intro K hK
                  have cb := (hwi.blk HBS.out (fun h => h)).k8
                  have p0 := (cell_old hwi hlz (fun h => h) _).trans P0.out
                  have p1 := (cell_old hwi hlz (fun h => h) _).trans P1.out
                  go_simp
                  apply hK
                  · rfl
                  · conv => (lhs; whnf)
                  · exact hwi
                simp only [put_lit, put_none]
                try dsimp only [List.set_cons_succ, List.set_cons_zero]
                apply Oblig.cons
                case h =>
                  intro S w1 hwi hSi hd hcl
                  apply StepOk.intro
                  intro K hK
                  have cb := (hwi.blk HBS.out (fun h => h)).k8
                  have p0 := (cell_old hwi hlz (fun h => h) _).trans P0.out
                  have p1 := (cell_old hwi hlz (fun h => h) _).trans P1.out
                  go_simp
                  apply hK
                  · rfl
                  · conv => (lhs; whnf)
                  · exact hwi
                simp only [put_lit, put_none]
                try dsimp only [List.set_cons_succ, List.set_cons_zero]
                apply Oblig.cons
                case h =>
                  intro S w1 hwi hSi hd hcl
                  apply StepOk.intro
                  intro K hK
                  have cb := (hwi.blk HBS.out (fun h => h)).k8
                  have p0 := (cell_old hwi hlz (fun h => h) _).trans P0.out
                  have p1 := (cell_old hwi hlz (fun h => h) _).trans P1.out
                  go_simp
                  apply hK
                  · rfl
                  · conv => (lhs; whnf)
                  · exact hwi
                simp only [put_lit, put_none]
                try dsimp only [List.set_cons_succ, List.set_cons_zero]
                apply Oblig.cons
                case h =>
                  intro S w1 hwi hSi hd hcl
                  apply StepOk.intro
                  intro K hK
                  have cb := (hwi.blk HBS.out (fun h => h)).k8
                  have p0 := (cell_old hwi hlz (fun h => h) _).trans P0.out
                  have p1 := (cell_old hwi hlz (fun h => h) _).trans P1.out
                  go_simp
                  apply hK
                  · rfl
                  · conv => (lhs; whnf)
                  · exact hwi
                simp only [put_lit, put_none]
                try dsimp only [List.set_cons_succ, List.set_cons_zero]
                apply Oblig.cons
                case h =>
                  intro S w1 hwi hSi hd hcl
                  apply StepOk.intro
                  intro K hK
                  have cb := (hwi.blk HBS.out (fun h => h)).k8
                  have p0 := (cell_old hwi hlz (fun h => h) _).trans P0.out
                  have p1 := (cell_old hwi hlz (fun h => h) _).trans P1.out
                  go_simp
                  apply hK
                  · rfl
                  · conv => (lhs; whnf)
                  · exact hwi
                simp only [put_lit, put_none]
                try dsimp only [List.set_cons_succ, List.set_cons_zero]
                exact Oblig.nil
              case h0 =>
                exact (Keep.refl _ _).drew
              case hend =>
                intro S wx hwi hall
                have HKX := hid hwi
                have HHX := hid (hwi.blk HHS.out (fun h => h))
                have HKT := hid (HKS.out.trans (hwi.to (S := fun k => k = hb)) (fun _ _ h => h))
                clear hwi hall
                go_wp2_with fail
                go_roundw
                case rel => exact ⟨kt + 1, H2, by omega, by go_num, HHX.out, HNO.out, HKT.out⟩
                case measure => first | (simp [intOf]; done) | (simp [intOf]; omega)
            · generalize q + 2 * kt = p at *
              have y6 : (xw == (p : Int)) = false := by simpa using hw
              clear hm hw
              go_wp2_with fail
              apply wp_region_text (WI := fun S wx => Keep0 ws wx) (by kernel_rfl) (by kernel_rfl)
              case hob =>
                apply Oblig.cons
                case h =>
                  intro S w1 hwi hSi hd hcl
                  apply StepOk.intro
                  intro K hK
                  have cb := (hwi.blk HBS.out (fun h => h)).k8
                  have p0 := (cell_old hwi hlz (fun h => h) _).trans P0.out
                  have p1 := (cell_old hwi hlz (fun h => h) _).trans P1.out
                  go_simp
                  apply hK
                  · rfl
                  · conv => (lhs; whnf)
                  · exact hwi
                simp only [put_lit, put_none]
                try dsimp only [List.set_cons_succ, List.set_cons_zero]
                apply Oblig.cons
                case h =>
                  intro S w1 hwi hSi hd hcl
                  apply StepOk.intro
                  intro K hK
                  have cb := (hwi.blk HBS.out (fun h => h)).k8
                  have p0 := (cell_old hwi hlz (fun h => h) _).trans P0.out
                  have p1 := (cell_old hwi hlz (fun h => h) _).trans P1.out
                  go_simp
                  apply hK
                  · rfl
                  · conv => (lhs; whnf)
                  · exact hwi
                simp only [put_lit, put_none]
                try dsimp only [List.set_cons_succ, List.set_cons_zero]
                apply Oblig.cons
                case h =>
                  intro S w1 hwi hSi hd hcl
                  apply StepOk.intro
                  intro K hK
                  have cb := (hwi.blk HBS.out (fun h => h)).k8
                  have p0 := (cell_old hwi hlz (fun h => h) _).trans P0.out
                  have p1 := (cell_old hwi hlz (fun h => h) _).trans P1.out
                  go_simp
                  apply hK
                  · rfl
                  · conv => (lhs; whnf)
                  · exact hwi
                simp only [put_lit, put_none]
                try dsimp only [List.set_cons_succ, List.set_cons_zero]
                apply Oblig.cons
                case h =>
                  intro S w1 hwi hSi hd hcl
                  apply StepOk.intro
                  intro K hK
                  have cb := (hwi.blk HBS.out (fun h => h)).k8
                  have p0 := (cell_old hwi hlz (fun h => h) _).trans P0.out
                  have p1 := (cell_old hwi hlz (fun h => h) _).trans P1.out
                  go_simp
                  apply hK
                  · rfl
                  · conv => (lhs; whnf)
                  · exact hwi
                simp only [put_lit, put_none]
                try dsimp only [List.set_cons_succ, List.set_cons_zero]
                apply Oblig.cons
                case h =>
                  intro S w1 hwi hSi hd hcl
                  apply StepOk.intro
                  intro K hK
                  have cb := (hwi.blk HBS.out (fun h => h)).k8
                  have p0 := (cell_old hwi hlz (fun h => h) _).trans P0.out
                  have p1 := (cell_old hwi hlz (fun h => h) _).trans P1.out
                  go_simp
                  apply hK
                  · rfl
                  · conv => (lhs; whnf)
                  · exact hwi
                simp only [put_lit, put_none]
                try dsimp only [List.set_cons_succ, List.set_cons_zero]
                apply Oblig.cons
                case h =>
                  intro S w1 hwi hSi hd hcl
                  apply StepOk.intro
                  intro K hK
                  have cb := (hwi.blk HBS.out (fun h => h)).k8
                  have p0 := (cell_old hwi hlz (fun h => h) _).trans P0.out
                  have p1 := (cell_old hwi hlz (fun h => h) _).trans P1.out
                  go_simp
                  apply hK
                  · rfl
                  · conv => (lhs; whnf)
                  · exact hwi
                simp only [put_lit, put_none]
                try dsimp only [List.set_cons_succ, List.set_cons_zero]
                apply Oblig.cons
                case h =>
                  intro S w1 hwi hSi hd hcl
                  apply StepOk.intro
                  intro K hK
                  have cb := (hwi.blk HBS.out (fun h => h)).k8
                  have p0 := (cell_old hwi hlz (fun h => h) _).trans P0.out
                  have p1 := (cell_old hwi hlz (fun h => h) _).trans P1.out
                  go_simp
                  apply hK
                  · rfl
                  · conv => (lhs; whnf)
                  · exact hwi
                simp only [put_lit, put_none]
                try dsimp only [List.set_cons_succ, List.set_cons_zero]
                apply Oblig.cons
                case h =>
                  intro S w1 hwi hSi hd hcl
                  apply StepOk.intro
                  intro K hK
                  have cb := (hwi.blk HBS.out (fun h => h)).k8
                  have p0 := (cell_old hwi hlz (fun h => h) _).trans P0.out
                  have p1 := (cell_old hwi hlz (fun h => h) _).trans P1.out
                  go_simp
                  refine (HPT.out _).mono ?_
                  rintro e w2 ⟨rfl, hk⟩
                  apply hK
                  · rfl
                  · conv => (lhs; whnf)
                  · exact hwi.trans hk (fun _ _ h => h)
                simp only [put_lit, put_none]
                try dsimp only [List.set_cons_succ, List.set_cons_zero]
                apply Oblig.cons
                case h =>
                  intro S w1 hwi hSi hd hcl
                  apply StepOk.intro
                  intro K hK
                  have cb := (hwi.blk HBS.out (fun h => h)).k8
                  have p0 := (cell_old hwi hlz (fun h => h) _).trans P0.out
                  have p1 := (cell_old hwi hlz (fun h => h) _).trans P1.out
                  go_simp
                  apply hK
                  · rfl
                  · conv => (lhs; whnf)
                  · exact hwi
                simp only [put_lit, put_none]
                try dsimp only [List.set_cons_succ, List.set_cons_zero]
                apply Oblig.cons
                case h =>
                  intro S w1 hwi hSi hd hcl
                  apply StepOk.intro
                  intro K hK
                  have cb := (hwi.blk HBS.out (fun h => h)).k8
                  have p0 := (cell_old hwi hlz (fun h => h) _).trans P0.out
                  have p1 := (cell_old hwi hlz (fun h => h) _).trans P1.out
                  go_simp
                  apply hK
                  · rfl
                  · conv => (lhs; whnf)
                  · exact hwi
                simp only [put_lit, put_none]
                try dsimp only [List.set_cons_succ, List.set_cons_zero]
                apply Oblig.cons
                case h =>
                  intro S w1 hwi hSi hd hcl
                  apply StepOk.intro
                  intro K hK
                  have cb := (hwi.blk HBS.out (fun h => h)).k8
                  have p0 := (cell_old hwi hlz (fun h => h) _).trans P0.out
                  have p1 := (cell_old hwi hlz (fun h => h) _).trans P1.out
                  go_simp
                  apply hK
                  · rfl
                  · conv => (lhs; whnf)
                  · exact hwi
                simp only [put_lit, put_none]
                try dsimp only [List.set_cons_succ, List.set_cons_zero]
                apply Oblig.cons
                case h =>
                  intro S w1 hwi hSi hd hcl
                  apply StepOk.intro
                  intro K hK
                  have cb := (hwi.blk HBS.out (fun h => h)).k8
                  have p0 := (cell_old hwi hlz (fun h => h) _).trans P0.out
                  have p1 := (cell_old hwi hlz (fun h => h) _).trans P1.out
                  go_simp
                  apply hK
                  · rfl
                  · conv => (lhs; whnf)
                  · exact hwi
                simp only [put_lit, put_none]
                try dsimp only [List.set_cons_succ, List.set_cons_zero]
                apply Oblig.cons
                case h =>
                  intro S w1 hwi hSi hd hcl
                  apply StepOk.intro
                  intro K hK
                  have cb := (hwi.blk HBS.out (fun h => h)).k8
                  have p0 := (cell_old hwi hlz (fun h => h) _).trans P0.out
                  have p1 := (cell_old hwi hlz (fun h => h) _).trans P1.out
                  go_simp
                  apply hK
                  · rfl
                  · conv => (lhs; whnf)
                  · exact hwi
                simp only [put_lit, put_none]
                try dsimp only [List.set_cons_succ, List.set_cons_zero]
                apply Oblig.cons
                case h =>
                  intro S w1 hwi hSi hd hcl
                  apply StepOk.intro
                  intro K hK
                  have cb := (hwi.blk HBS.out (fun h => h)).k8
                  have p0 := (cell_old hwi hlz (fun h => h) _).trans P0.out
                  have p1 := (cell_old hwi hlz (fun h => h) _).trans P1.out
                  go_simp
                  apply hK
                  · rfl
                  · conv => (lhs; whnf)
                  · exact hwi
                simp only [put_lit, put_none]
                try dsimp only [List.set_cons_succ, List.set_cons_zero]
                apply Oblig.cons
                case h =>
                  intro S w1 hwi hSi hd hcl
                  apply StepOk.intro
                  intro K hK
                  have cb := (hwi.blk HBS.out (fun h => h)).k8
                  have p0 := (cell_old hwi hlz (fun h => h) _).trans P0.out
                  have p1 := (cell_old hwi hlz (fun h => h) _).trans P1.out
                  go_simp
                  apply hK
                  · rfl
                  · conv => (lhs; whnf)
                  · exact hwi
                simp only [put_lit, put_none]
                try dsimp only [List.set_cons_succ, List.set_cons_zero]
                apply Oblig.cons
                case h =>
                  intro S w1 hwi hSi hd hcl
                  apply StepOk.intro
                  intro K hK
                  have cb := (hwi.blk HBS.out (fun h => h)).k8
                  have p0 := (cell_old hwi hlz (fun h => h) _).trans P0.out
                  have p1 := (cell_old hwi hlz (fun h => h) _).trans P1.out
                  go_simp
                  apply hK
                  · rfl
                  · conv => (lhs; whnf)
                  · exact hwi
                simp only [put_lit, put_none]
                try dsimp only [List.set_cons_succ, List.set_cons_zero]
                apply Oblig.cons
                case h =>
                  intro S w1 hwi hSi hd hcl
                  apply StepOk.intro
                  intro K hK
                  have cb := (hwi.blk HBS.out (fun h => h)).k8
                  have p0 := (cell_old hwi hlz (fun h => h) _).trans P0.out
                  have p1 := (cell_old hwi hlz (fun h => h) _).trans P1.out
                  go_simp
                  apply hK
                  · rfl
                  · conv => (lhs; whnf)
                  · exact hwi
                simp only [put_lit, put_none]
                try dsimp only [List.set_cons_succ, List.set_cons_zero]
                exact Oblig.nil
              case h0 =>
                exact (Keep.refl _ _).drew
              case hend =>
                intro S wx hwi hall
                have HKX := hid hwi
                have HHX := hid (hwi.blk HHS.out (fun h => h))
                have HKT := hid (HKS.out.trans (hwi.to (S := fun k => k = hb)) (fun _ _ h => h))
                clear hwi hall
                go_wp2_with fail
                go_roundw
                case rel => exact ⟨kt + 1, H2, by omega, by go_num, HHX.out, HNO.out, HKT.out⟩
                case measure => first | (simp [intOf]; done) | (simp [intOf]; omega)
        · obtain rfl : K = kt := by omega
          have HRW := hid hmi.row
          clear hmi
          go_wp2_with fail
          go_roundw
          case rel => exact ⟨i + 1, H2, by omega, by go_num, HHS.out, HRW.out, HKS.out⟩
          case measure => first | (simp [intOf]; done) | (simp [intOf]; omega)
    · obtain rfl : i = pn := by omega
      have HBR := hid (HKR.out.blk HB9.out (HB9.out.ne HH9.out (by decide)))
      have HKE : Hid (Keep0 w wr) := hid (keep_far11 HK9.out HKR.out (fun k e => by have e' : k = hb := e; omega))
      have qbr := HBR.out.k8
      have g1 : decide ((i : Int) ≤ 2 * (K : Int)) = true := decide_eq_true (by omega)
      have g2 : decide ((1 : Int) ≤ (i : Int)) = true := decide_eq_true (by omega)
      have y1 : IntKind.i64.wrap (2 * (K : Int)) = 2 * (K : Int) := IntWalk.i64_in _ (by omega)
      go_wp2_with fail
      go_ret
      exact ⟨rfl, HKE.out⟩
end Go.Proofs.Ytjloccnbcgkmgaa
