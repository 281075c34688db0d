/- breadlinelaw08: Words. -/
import Derived.Test.YtonekdolmbdniaaLawEight
namespace Go.Proofs.Ytonekdolmbdniaa
open Go.RowKit
set_option linter.unusedVariables false
set_option linter.unusedSimpArgs false
set_option maxRecDepth 100000

def leaseW (l : Int) (b : Nat) (Q : List Int) : Nat → List Int → List Int
  | 0, W => W
  | i + 1, W => (leaseW l b Q i W).set (b + i) (rd Q i % (l + 1))
theorem leaseW_length (l : Int) (b : Nat) (Q : List Int) (i : Nat) (W : List Int) : (leaseW l b Q i W).length = W.length := by
  induction i with
  | zero => rfl
  | succ i ih => rw [leaseW, List.length_set, ih]
def words8 (s k l : Int) (L : List Int) (pn : Nat) (v avl : Int) (Q : List Int) : List Int :=
  leaseW l (v * (6 + 2 * s) + 2).toNat Q (min s.toNat Q.length) ((freshW s k pn L).set (v * (6 + 2 * s) + 1).toNat avl)
theorem words8_length (s k l : Int) (L : List Int) (pn : Nat) (v avl : Int) (Q : List Int) : (words8 s k l L pn v avl Q).length = (pn * (6 + 2 * s) + 2 * k).toNat := by
  rw [words8, leaseW_length, List.length_set, freshW_length]

set_option maxHeartbeats 2000000 in
theorem law8_Words (t s g l r k : Int) (PA : Option Addr) (P : List Int) (pc : Nat) (LA : Option Addr) (L : List Int) (lc : Nat) (nd nn st avl : Int) (QA : Option Addr) (Q : List Int) (qc : Nat) (KA : Option Addr) (K : List Pk) (kc : Nat) (w : World) (hP : IntsAt w PA P) (hL : IntsAt w LA L) (hQ : U32At w QA Q) (hR : Right t s g l r k P L) (h1 : 0 ≤ nd ∧ nd ≤ 255) (h2 : 0 ≤ nn ∧ nn ≤ 4294967295) (h3 : 0 ≤ st ∧ st ≤ 255) (h4 : 0 ≤ avl ∧ avl ≤ 4294967295)
    (hq : Q.length ≤ 20) (hq2 : ∀ i, i < Q.length → 0 ≤ rd Q i ∧ rd Q i ≤ 4294967295) :
    Calls Try.prog 39 #[.agg #[i64 t, i64 s, i64 g, i64 l, i64 r, i64 k, .slice PA P.length pc, .slice LA L.length lc, .int .u8 nd, .int .u32 nn, .int .u8 st, .int .u32 avl, .slice QA Q.length qc, .slice KA K.length kc]] w fun e w' => ∃ A c', e = .returned (.slice A (words8 s k l L P.length (nd % P.length) avl Q).length c') ∧
      w'.ownsRow w.heap.size 3 1 (.slice A (words8 s k l L P.length (nd % P.length) avl Q).length c') (words8 s k l L P.length (nd % P.length) avl Q).length (ints (words8 s k l L P.length (nd % P.length) avl Q)) ∧ Keep0 w w' := by
  have hp := hR.p
  have hs := hR.sb
  have hl := hR.l
  have hk := hR.k
  have hlen := hR.len
  obtain ⟨lb, lo, rfl, hlc⟩ := hL.cell (by omega)
  have HLC := hid hlc
  have hlz := World.block_lt_of_cell? _ _ (hlc 0 (by omega))
  simp only at hlz
  have HOF := hid (fun (w' : World) => law8_Of t s g l r k PA P pc (some ⟨lb, lo, none⟩) L lc nd nn st avl QA Q qc KA K kc w' ⟨hp.1, by omega⟩ hs h1 h2 h3)
  have hv0 := Int.emod_nonneg nd (show (P.length : Int) ≠ 0 by omega)
  have hv1 := Int.emod_lt_of_pos nd (show (0 : Int) < P.length by omega)
  have hwl := words8_length s k l L P.length (nd % P.length) avl Q
  have HW : Hid (words8 s k l L P.length (nd % P.length) avl Q = leaseW l ((nd % P.length) * (6 + 2 * s) + 2).toNat Q (min s.toNat Q.length) ((freshW s k P.length L).set ((nd % P.length) * (6 + 2 * s) + 1).toNat avl)) := hid rfl
  generalize words8 s k l L P.length (nd % P.length) avl Q = WW at *
  generalize nd % (P.length : Int) = v at *
  have hv : 0 ≤ v ∧ v < P.length := ⟨hv0, hv1⟩
  have hm1 := mul_bd 12 22 hv0 (by omega) (show 0 ≤ 6 + 2 * s by omega) (by omega)
  have hm2 : (v + 1) * (6 + 2 * s) ≤ (P.length : Int) * (6 + 2 * s) := Int.mul_le_mul_of_nonneg_right (by omega) (by omega)
  have hm3 : (v + 1) * (6 + 2 * s) = v * (6 + 2 * s) + (6 + 2 * s) := by rw [Int.add_mul, Int.one_mul]
  have hm4 := mul_bd 12 22 (show (0 : Int) ≤ P.length by omega) (by omega) (show 0 ≤ 6 + 2 * s by omega) (by omega)
  obtain ⟨av, hav⟩ := Int.eq_ofNat_of_zero_le (show 0 ≤ v * (6 + 2 * s) + 1 by omega)
  have hlb : v * (6 + 2 * s) + 2 = ((av + 1 : Nat) : Int) := by omega
  have hle : (v * (6 + 2 * s) + 1).toNat = av := by omega
  have hle2 : (v * (6 + 2 * s) + 2).toNat = av + 1 := by omega
  have HAV : Hid ((av : Int) = v * (6 + 2 * s) + 1) := hid hav.symm
  have hav0 : (av : Int) ≤ 12 * 22 + 1 := by omega
  have ya : IntKind.i64.wrap avl = avl := IntWalk.i64_in _ (by omega)
  have hz : w.heap.size < (w.alloc (.cells #[i64 t, i64 s, i64 g, i64 l, i64 r, i64 k, .slice PA P.length pc, .slice (some ⟨lb, lo, none⟩) L.length lc, .int .u8 nd, .int .u32 nn, .int .u8 st, .int .u32 avl, .slice QA Q.length qc, .slice KA K.length kc] 29)).heap.size := by simp
  have HB : Hid (Blk (w.alloc (.cells #[i64 t, i64 s, i64 g, i64 l, i64 r, i64 k, .slice PA P.length pc, .slice (some ⟨lb, lo, none⟩) L.length lc, .int .u8 nd, .int .u32 nn, .int .u8 st, .int .u32 avl, .slice QA Q.length qc, .slice KA K.length kc] 29)) w.heap.size 29 [i64 t, i64 s, i64 g, i64 l, i64 r, i64 k, .slice PA P.length pc, .slice (some ⟨lb, lo, none⟩) L.length lc, .int .u8 nd, .int .u32 nn, .int .u8 st, .int .u32 avl, .slice QA Q.length qc, .slice KA K.length kc]) := hid (Blk.made rfl rfl)
  have HK0 : Hid (Keep0 w (w.alloc (.cells #[i64 t, i64 s, i64 g, i64 l, i64 r, i64 k, .slice PA P.length pc, .slice (some ⟨lb, lo, none⟩) L.length lc, .int .u8 nd, .int .u32 nn, .int .u8 st, .int .u32 avl, .slice QA Q.length qc, .slice KA K.length kc] 29))) := hid ((Keep.refl _ _).alloc _)
  have qb := HB.out.k14
  have HQ := hid hQ
  have HQ2 := hid hq2
  have HLEN := hid hlen
  clear hP hL hQ hR hlc hq2 hlen
  rw [hle, hle2] at HW
  clear hle hle2 hlb
  go_enter Try.func39, Try.ntmps39
  go_wp2_with fail
  refine (HOF.out _).mono ?_
  rintro e w1 ⟨rfl, hk1⟩
  have HB1 := hid (hk1.blk HB.out (fun h => h))
  have HK1 : Hid (Keep0 w w1) := hid (Keep0.step HK0.out hk1)
  have qb1 := HB1.out.k14
  clear hk1 HB HK0 qb
  go_wp2_with fail
  refine (ref_Fresh w.heap.size w1 lb lo t s g l r k PA P.length pc L.length lc L HK1.out.size hs.1 hs.2 (by omega) (by omega) (by omega) (by have := HLEN.out; omega) (fun i hi => (cell_old HK1.out hlz (fun h => h) _).trans (HLC.out i (by have := HLEN.out; omega))) (Nat.lt_of_lt_of_le hlz HK1.out.size)).mono ?_
  rintro e w2 ⟨m, rfl, hm, hk2, hzm⟩
  have HB2 := hid (hk2.blk HB1.out (fun h => h))
  have HK2 : Hid (Keep0 w w2) := hid (Keep0.step HK1.out hk2)
  have HM2 := hid hm
  have qb2 := HB2.out.k14
  have hcm : w.heap.size ≠ m := by have := HB1.out.lt; omega
  have hwm : w.heap.size ≤ m := Nat.le_trans HK1.out.size hzm
  clear hk2 hm qb1 HB1 hzm
  have hW0 : (freshW s k P.length L).length = (P.length * (6 + 2 * s) + 2 * k).toNat := freshW_length _ _ _ _
  have hWm : (freshW s k P.length L).length = WW.length := by rw [hW0, hwl]
  generalize freshW s k P.length L = W0 at *
  have hlt : av + 1 + s.toNat < W0.length := by omega
  clear hav
  go_wp2_with fail
  apply wp_region_text (WI := fun S wx => Keep (fun k => k = m) w2 wx ∧ (S 8 = false → RefOK w.heap.size wx m (.slice none 0 0) W0 []) ∧ (S 8 = true → RefOK w.heap.size wx m (.slice none 0 0) (W0.set av avl) [])) (by kernel_rfl) (by kernel_rfl)
  case hob =>
    apply Oblig.cons
    case h =>
      intro S w1 hwi hSi hd hcl
      apply StepOk.intro
      intro K hK
      have cb1 := (hwi.1.blk HB2.out hcm).k14
      go_simp
      apply hK
      · rfl
      · conv => (lhs; whnf)
      · exact hwi
    simp only [put_lit, put_none, List.set_cons_succ, List.set_cons_zero]
    apply Oblig.cons
    case h =>
      intro S w1 hwi hSi hd hcl
      apply StepOk.intro
      intro K hK
      have cb1 := (hwi.1.blk HB2.out hcm).k14
      go_simp
      apply hK
      · rfl
      · conv => (lhs; whnf)
      · exact hwi
    simp only [put_lit, put_none, List.set_cons_succ, List.set_cons_zero]
    apply Oblig.cons
    case h =>
      intro S w1 hwi hSi hd hcl
      apply StepOk.intro
      intro K hK
      have cb1 := (hwi.1.blk HB2.out hcm).k14
      go_simp
      apply hK
      · rfl
      · conv => (lhs; whnf)
      · exact hwi
    simp only [put_lit, put_none, List.set_cons_succ, List.set_cons_zero]
    apply Oblig.cons
    case h =>
      intro S w1 hwi hSi hd hcl
      apply StepOk.intro
      intro K hK
      have cb1 := (hwi.1.blk HB2.out hcm).k14
      go_simp
      apply hK
      · rfl
      · conv => (lhs; whnf)
      · exact hwi
    simp only [put_lit, put_none, List.set_cons_succ, List.set_cons_zero]
    apply Oblig.cons
    case h =>
      intro S w1 hwi hSi hd hcl
      apply StepOk.intro
      intro K hK
      have cb1 := (hwi.1.blk HB2.out hcm).k14
      go_simp
      refine (ref_Avail t s g l r k PA P.length pc (some ⟨lb, lo, none⟩) L.length lc v _ hs.1 hs.2 hv.1 (by omega)).mono ?_
      rintro e w2 ⟨rfl, hk⟩
      apply hK
      · rfl
      · conv => (lhs; whnf)
      · exact ⟨hwi.1.trans (hk.to (S := fun k => k = m)) (fun _ _ h => h), fun h => (hwi.2.1 h).same hk, fun h => (hwi.2.2 h).same hk⟩
    simp only [put_lit, put_none, List.set_cons_succ, List.set_cons_zero]
    apply Oblig.cons
    case h =>
      intro S w1 hwi hSi hd hcl
      apply StepOk.intro
      intro K hK
      have cb1 := (hwi.1.blk HB2.out hcm).k14
      go_simp
      apply hK
      · rfl
      · conv => (lhs; whnf)
      · exact hwi
    simp only [put_lit, put_none, List.set_cons_succ, List.set_cons_zero]
    apply Oblig.cons
    case h =>
      intro S w1 hwi hSi hd hcl
      apply StepOk.intro
      intro K hK
      have cb1 := (hwi.1.blk HB2.out hcm).k14
      go_simp
      apply hK
      · rfl
      · conv => (lhs; whnf)
      · exact hwi
    simp only [put_lit, put_none, List.set_cons_succ, List.set_cons_zero]
    apply Oblig.cons
    case h =>
      intro S w1 hwi hSi hd hcl
      apply StepOk.intro
      intro K hK
      have cb1 := (hwi.1.blk HB2.out hcm).k14
      go_simp
      apply hK
      · rfl
      · conv => (lhs; whnf)
      · exact hwi
    simp only [put_lit, put_none, List.set_cons_succ, List.set_cons_zero]
    apply Oblig.cons
    case h =>
      intro S w1 hwi hSi hd hcl
      apply StepOk.intro
      intro K hK
      have cb1 := (hwi.1.blk HB2.out hcm).k14
      go_simp
      refine (show Calls Try.prog 52 #[ptr m, i64 (v * (6 + 2 * s) + 1), i64 avl] w1 (fun e w' => e = .returned (.tuple #[]) ∧ RefOK w.heap.size w' m (.slice none 0 0) (W0.set av avl) [] ∧ Keep (fun k => k = m) w1 w') from by have h := ref_Poke' w.heap.size w1 m _ _ _ (av : Int) avl (hwi.2.1 hSi) (by omega) (by omega) (by omega); rw [Int.toNat_natCast, HAV.out] at h; exact h).mono ?_
      rintro e w2 ⟨rfl, hm2, hk2⟩
      apply hK
      · rfl
      · conv => (lhs; whnf)
      · exact ⟨hwi.1.trans hk2 (fun _ _ h => h), fun h => by simp [upd] at h, fun _ => hm2⟩
    simp only [put_lit, put_none, List.set_cons_succ, List.set_cons_zero]
    exact Oblig.nil
  case h0 =>
    exact ⟨(Keep.refl _ _).drew, fun _ => HM2.out.same (Keep.refl _ _).drew, fun h => by cases h⟩
  case hend =>
    intro S wx hwi hall
    have HM3 := hid (hwi.2.2 (hall 8 (by decide)))
    have HK3 := hid hwi.1
    have qb3 := (hwi.1.blk HB2.out hcm).k14
    clear hwi hall qb2
    go_wp2_with fail
    go_loopw [7] (fun v7 wr => ∃ i : Nat, i ≤ min s.toNat Q.length ∧ v7 = .int .i64 i ∧ RefOK w.heap.size wr m (.slice none 0 0) (leaseW l (av + 1) Q i (W0.set av avl)) [] ∧ Keep (fun k => k = m) w2 wr) (fun v _ => min s.toNat Q.length - (intOf v).toNat)
    case atStart => exact ⟨0, Nat.zero_le _, rfl, HM3.out, HK3.out⟩
    case round =>
      obtain ⟨i, hi, rfl, hm, hk⟩ := hrel
      clear HM3 HK3 qb3
      have HMR := hid hm
      have HKR := hid hk
      have HBR := hid (hk.blk HB2.out hcm)
      have qbr := HBR.out.k14
      clear hm hk
      by_cases hlt : i < min s.toNat Q.length
      · obtain ⟨qb, qo, rfl, hqc⟩ := HQ.out.cell (by omega)
        have hqr := HQ2.out i (by omega)
        have hx0 := hqc i (by omega)
        have hqz := World.block_lt_of_cell? _ _ hx0
        simp only at hqz
        have hqm : qb ≠ m := by omega
        have hq2z : qb < w2.heap.size := Nat.lt_of_lt_of_le hqz HK2.out.size
        have HX := hid ((cell_old HKR.out hq2z hqm _).trans ((cell_old HK2.out hqz (fun h => h) _).trans hx0))
        have HQZ := hid (Nat.lt_of_lt_of_le hq2z HKR.out.size)
        have HVX := hid (show leaseW l (av + 1) Q (i + 1) (W0.set av avl) = (leaseW l (av + 1) Q i (W0.set av avl)).set (av + 1 + i) (rd Q i % (l + 1)) from rfl)
        have hVl := leaseW_length l (av + 1) Q i (W0.set av avl)
        rw [List.length_set] at hVl
        generalize leaseW l (av + 1) Q i (W0.set av avl) = V at *
        have HLB : Hid (((av + 1 + i : Nat) : Int) = v * (6 + 2 * s) + 2 + i) := hid (by have := HAV.out; omega)
        have y1 : IntKind.i64.wrap (rd Q i) = rd Q i := IntWalk.i64_in _ (by omega)
        have y2 : IntKind.i64.wrap (l + 1) = l + 1 := IntWalk.i64_in _ (by omega)
        have y3 : (rd Q i).tmod (l + 1) = rd Q i % (l + 1) := Int.tmod_eq_emod_of_nonneg hqr.1
        have y4 : l + 1 ≠ 0 := by omega
        have g1 : (i : Int) < s := by omega
        have g2 : (i : Int) < Q.length := by omega
        clear hqc hx0
        go_wp2_with fail
        apply wp_region_text (WI := fun S wx => Keep (fun k => k = m) wr wx ∧ (S 17 = false → RefOK w.heap.size wx m (.slice none 0 0) V []) ∧ (S 17 = true → RefOK w.heap.size wx m (.slice none 0 0) (V.set (av + 1 + i) (rd Q i % (l + 1))) [])) (by kernel_rfl) (by kernel_rfl)
        case hob =>
          apply Oblig.cons
          case h =>
            intro S w1 hwi hSi hd hcl
            apply StepOk.intro
            intro K hK
            have cb1 := (hwi.1.blk HBR.out hcm).k14
            have hx1 := (cell_old hwi.1 HQZ.out hqm _).trans HX.out
            go_simp
            apply hK
            · rfl
            · conv => (lhs; whnf)
            · exact hwi
          simp only [put_lit, put_none, List.set_cons_succ, List.set_cons_zero]
          apply Oblig.cons
          case h =>
            intro S w1 hwi hSi hd hcl
            apply StepOk.intro
            intro K hK
            have cb1 := (hwi.1.blk HBR.out hcm).k14
            have hx1 := (cell_old hwi.1 HQZ.out hqm _).trans HX.out
            go_simp
            apply hK
            · rfl
            · conv => (lhs; whnf)
            · exact hwi
          simp only [put_lit, put_none, List.set_cons_succ, List.set_cons_zero]
          apply Oblig.cons
          case h =>
            intro S w1 hwi hSi hd hcl
            apply StepOk.intro
            intro K hK
            have cb1 := (hwi.1.blk HBR.out hcm).k14
            have hx1 := (cell_old hwi.1 HQZ.out hqm _).trans HX.out
            go_simp
            apply hK
            · rfl
            · conv => (lhs; whnf)
            · exact hwi
          simp only [put_lit, put_none, List.set_cons_succ, List.set_cons_zero]
          apply Oblig.cons
          case h =>
            intro S w1 hwi hSi hd hcl
            apply StepOk.intro
            intro K hK
            have cb1 := (hwi.1.blk HBR.out hcm).k14
            have hx1 := (cell_old hwi.1 HQZ.out hqm _).trans HX.out
            go_simp
            apply hK
            · rfl
            · conv => (lhs; whnf)
            · exact hwi
          simp only [put_lit, put_none, List.set_cons_succ, List.set_cons_zero]
          apply Oblig.cons
          case h =>
            intro S w1 hwi hSi hd hcl
            apply StepOk.intro
            intro K hK
            have cb1 := (hwi.1.blk HBR.out hcm).k14
            have hx1 := (cell_old hwi.1 HQZ.out hqm _).trans HX.out
            go_simp
            apply hK
            · rfl
            · conv => (lhs; whnf)
            · exact hwi
          simp only [put_lit, put_none, List.set_cons_succ, List.set_cons_zero]
          apply Oblig.cons
          case h =>
            intro S w1 hwi hSi hd hcl
            apply StepOk.intro
            intro K hK
            have cb1 := (hwi.1.blk HBR.out hcm).k14
            have hx1 := (cell_old hwi.1 HQZ.out hqm _).trans HX.out
            go_simp
            refine (ref_Lease t s g l r k PA P.length pc (some ⟨lb, lo, none⟩) L.length lc v i _ hs.1 hs.2 hv.1 (by omega) (by omega) (by omega)).mono ?_
            rintro e w2 ⟨rfl, hk⟩
            apply hK
            · rfl
            · conv => (lhs; whnf)
            · exact ⟨hwi.1.trans (hk.to (S := fun k => k = m)) (fun _ _ h => h), fun h => (hwi.2.1 h).same hk, fun h => (hwi.2.2 h).same hk⟩
          simp only [put_lit, put_none, List.set_cons_succ, List.set_cons_zero]
          apply Oblig.cons
          case h =>
            intro S w1 hwi hSi hd hcl
            apply StepOk.intro
            intro K hK
            have cb1 := (hwi.1.blk HBR.out hcm).k14
            have hx1 := (cell_old hwi.1 HQZ.out hqm _).trans HX.out
            go_simp
            apply hK
            · rfl
            · conv => (lhs; whnf)
            · exact hwi
          simp only [put_lit, put_none, List.set_cons_succ, List.set_cons_zero]
          apply Oblig.cons
          case h =>
            intro S w1 hwi hSi hd hcl
            apply StepOk.intro
            intro K hK
            have cb1 := (hwi.1.blk HBR.out hcm).k14
            have hx1 := (cell_old hwi.1 HQZ.out hqm _).trans HX.out
            go_simp
            apply hK
            · rfl
            · conv => (lhs; whnf)
            · exact hwi
          simp only [put_lit, put_none, List.set_cons_succ, List.set_cons_zero]
          apply Oblig.cons
          case h =>
            intro S w1 hwi hSi hd hcl
            apply StepOk.intro
            intro K hK
            have cb1 := (hwi.1.blk HBR.out hcm).k14
            have hx1 := (cell_old hwi.1 HQZ.out hqm _).trans HX.out
            go_simp
            apply hK
            · rfl
            · conv => (lhs; whnf)
            · exact hwi
          simp only [put_lit, put_none, List.set_cons_succ, List.set_cons_zero]
          apply Oblig.cons
          case h =>
            intro S w1 hwi hSi hd hcl
            apply StepOk.intro
            intro K hK
            have cb1 := (hwi.1.blk HBR.out hcm).k14
            have hx1 := (cell_old hwi.1 HQZ.out hqm _).trans HX.out
            go_simp
            apply hK
            · rfl
            · conv => (lhs; whnf)
            · exact hwi
          simp only [put_lit, put_none, List.set_cons_succ, List.set_cons_zero]
          apply Oblig.cons
          case h =>
            intro S w1 hwi hSi hd hcl
            apply StepOk.intro
            intro K hK
            have cb1 := (hwi.1.blk HBR.out hcm).k14
            have hx1 := (cell_old hwi.1 HQZ.out hqm _).trans HX.out
            go_simp
            apply hK
            · rfl
            · conv => (lhs; whnf)
            · exact hwi
          simp only [put_lit, put_none, List.set_cons_succ, List.set_cons_zero]
          apply Oblig.cons
          case h =>
            intro S w1 hwi hSi hd hcl
            apply StepOk.intro
            intro K hK
            have cb1 := (hwi.1.blk HBR.out hcm).k14
            have hx1 := (cell_old hwi.1 HQZ.out hqm _).trans HX.out
            go_simp
            apply hK
            · rfl
            · conv => (lhs; whnf)
            · exact hwi
          simp only [put_lit, put_none, List.set_cons_succ, List.set_cons_zero]
          apply Oblig.cons
          case h =>
            intro S w1 hwi hSi hd hcl
            apply StepOk.intro
            intro K hK
            have cb1 := (hwi.1.blk HBR.out hcm).k14
            have hx1 := (cell_old hwi.1 HQZ.out hqm _).trans HX.out
            go_simp
            apply hK
            · rfl
            · conv => (lhs; whnf)
            · exact hwi
          simp only [put_lit, put_none, List.set_cons_succ, List.set_cons_zero]
          apply Oblig.cons
          case h =>
            intro S w1 hwi hSi hd hcl
            apply StepOk.intro
            intro K hK
            have cb1 := (hwi.1.blk HBR.out hcm).k14
            have hx1 := (cell_old hwi.1 HQZ.out hqm _).trans HX.out
            go_simp
            apply hK
            · rfl
            · conv => (lhs; whnf)
            · exact hwi
          simp only [put_lit, put_none, List.set_cons_succ, List.set_cons_zero]
          apply Oblig.cons
          case h =>
            intro S w1 hwi hSi hd hcl
            apply StepOk.intro
            intro K hK
            have cb1 := (hwi.1.blk HBR.out hcm).k14
            have hx1 := (cell_old hwi.1 HQZ.out hqm _).trans HX.out
            go_simp
            apply hK
            · rfl
            · conv => (lhs; whnf)
            · exact hwi
          simp only [put_lit, put_none, List.set_cons_succ, List.set_cons_zero]
          apply Oblig.cons
          case h =>
            intro S w1 hwi hSi hd hcl
            apply StepOk.intro
            intro K hK
            have cb1 := (hwi.1.blk HBR.out hcm).k14
            have hx1 := (cell_old hwi.1 HQZ.out hqm _).trans HX.out
            go_simp
            apply hK
            · rfl
            · conv => (lhs; whnf)
            · exact hwi
          simp only [put_lit, put_none, List.set_cons_succ, List.set_cons_zero]
          apply Oblig.cons
          case h =>
            intro S w1 hwi hSi hd hcl
            apply StepOk.intro
            intro K hK
            have cb1 := (hwi.1.blk HBR.out hcm).k14
            have hx1 := (cell_old hwi.1 HQZ.out hqm _).trans HX.out
            go_simp
            apply hK
            · rfl
            · conv => (lhs; whnf)
            · exact hwi
          simp only [put_lit, put_none, List.set_cons_succ, List.set_cons_zero]
          apply Oblig.cons
          case h =>
            intro S w1 hwi hSi hd hcl
            apply StepOk.intro
            intro K hK
            have cb1 := (hwi.1.blk HBR.out hcm).k14
            have hx1 := (cell_old hwi.1 HQZ.out hqm _).trans HX.out
            go_simp
            refine (show Calls Try.prog 52 #[ptr m, i64 (v * (6 + 2 * s) + 2 + i), i64 (rd Q i % (l + 1))] w1 (fun e w' => e = .returned (.tuple #[]) ∧ RefOK w.heap.size w' m (.slice none 0 0) (V.set (av + 1 + i) (rd Q i % (l + 1))) [] ∧ Keep (fun k => k = m) w1 w') from by have h := ref_Poke' w.heap.size w1 m _ _ _ ((av + 1 + i : Nat) : Int) (rd Q i % (l + 1)) (hwi.2.1 hSi) (by omega) (by omega) (by omega); rw [Int.toNat_natCast, HLB.out] at h; exact h).mono ?_
            rintro e w2 ⟨rfl, hm2, hk2⟩
            apply hK
            · rfl
            · conv => (lhs; whnf)
            · exact ⟨hwi.1.trans hk2 (fun _ _ h => h), fun h => by simp [upd] at h, fun _ => hm2⟩
          simp only [put_lit, put_none, List.set_cons_succ, List.set_cons_zero]
          exact Oblig.nil
        case h0 =>
          exact ⟨(Keep.refl _ _).drew, fun _ => HMR.out.same (Keep.refl _ _).drew, fun h => by cases h⟩
        case hend =>
          intro S wx hwi hall
          have HM4 := hid (hwi.2.2 (hall 17 (by decide)))
          have HK4 := hid (HKR.out.trans hwi.1 (fun _ _ h => h))
          clear hwi hall
          go_wp2_with fail
          go_roundw
          case rel => exact ⟨i + 1, by omega, by go_num, by rw [HVX.out]; exact HM4.out, HK4.out⟩
          case measure => simp [intOf]; omega
      · obtain rfl : i = min s.toNat Q.length := by omega
        obtain ⟨A, c, hr⟩ := HMR.out
        rw [← HW.out] at hr
        have hwz := hr.words
        have hms := hr.mem.k2
        have HWZ := hid hwz
        have HKF := hid (HK2.out.trans (T := fun k => k = m) HKR.out (by rintro k hk rfl; omega) |>.mono (fun _ h => h))
        clear hr hwz HMR
        by_cases g1 : ((min s.toNat Q.length : Nat) : Int) < s
        · have g2 : ¬ ((min s.toNat Q.length : Nat) : Int) < Q.length := by omega
          go_wp2_with fail
          go_ret
          exact ⟨A, c, rfl, (by have h := HWZ.out; rw [hwl] at h; exact h), HKF.out⟩
        · go_wp2_with fail
          go_ret
          exact ⟨A, c, rfl, (by have h := HWZ.out; rw [hwl] at h; exact h), HKF.out⟩
end Go.Proofs.Ytonekdolmbdniaa
