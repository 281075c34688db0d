/- Contracts and plain laws for UsageSums, part 12: what the walk of the law leans on. -/
import Derived.Test.YthaceckccobgeaaZSmall4
import Derived.Test.YthaceckccobgeaaZSmall6
import Derived.Test.YthaceckccobgeaaZSmall11
namespace Go.Proofs.Ythaceckccobgeaa
open Go.RowKit
set_option linter.unusedVariables false
set_option linter.unusedSimpArgs false
def greatB (pn ln : Nat) : Bool := decide (100 < (pn : Int)) || decide (100 < (ln : Int))
set_option maxHeartbeats 400000 in
theorem law_Great (t s g l r k : Int) (PA : Option Addr) (pn pc : Nat) (LA : Option Addr) (ln lc : Nat) (w : World) (h1 : pn ≤ 9223372036854775807) (h2 : ln ≤ 9223372036854775807) :
 Calls Try.prog 6 #[.agg #[i64 t, i64 s, i64 g, i64 l, i64 r, i64 k, .slice PA pn pc, .slice LA ln lc]] w (Ret (.bool (greatB pn ln)) w) := by
 go_enter Try.func6, Try.ntmps6
 go_wp2
 all_goals
  go_ret
  refine ⟨?_, (Keep.refl _ _).alloc _⟩
  simp_all [greatB]
def goodB (t s g l r k : Int) (P L : List Int) : Bool := !greatB P.length L.length && rightB t s g l r k P L
structure Right (t s g l r k : Int) (P L : List Int) : Prop where
 t : 1 ≤ t ∧ t ≤ 8
 s : s = 1 ∨ s = 2 ∨ s = 4 ∨ s = 8
 g : 1 ≤ g ∧ g ≤ 1048576
 l : 0 ≤ l ∧ l ≤ 1048576
 r : 1 ≤ r ∧ r ≤ 8
 k : 1 ≤ k ∧ k ≤ 16
 p : 1 ≤ P.length ∧ P.length ≤ 12
 len : L.length = P.length
 lim : ∀ i, i < P.length → 0 ≤ rd L i ∧ rd L i ≤ 1099511627776
 root : rd P 0 = -1
 par : ∀ i, 0 < i → i < P.length → 0 ≤ rd P i ∧ rd P i ≤ i - 1
theorem restB_all {P L : List Int} : ∀ d i, restB P L d i = true → ∀ j, i ≤ j → j < i + d → inB (rd L j) 0 1099511627776 = true ∧ (if j = 0 then rd P j = -1 else inB (rd P j) 0 (j - 1) = true) := by
 intro d
 induction d with
 | zero => intro i _ j h1 h2; omega
 | succ d ih =>
  intro i h j h1 h2
  simp only [restB, Bool.and_eq_true] at h
  by_cases e : j = i
  · subst e
    refine ⟨h.1.1, ?_⟩
    have := h.1.2
    split at this
    · rename_i h0; rw [if_pos h0]; simpa using this
    · rename_i h0; rw [if_neg h0]; exact this
  · exact ih _ h.2 j (by omega) (by omega)
theorem Right.of {t s g l r k : Int} {P L : List Int} (h : goodB t s g l r k P L = true) : Right t s g l r k P L := by
 simp only [goodB, rightB, headB, Bool.and_eq_true] at h
 obtain ⟨_, ⟨⟨⟨⟨⟨⟨⟨i1, i2⟩, i3⟩, i4⟩, i5⟩, i6⟩, i7⟩, i8⟩, i9⟩ := h
 have hr := restB_all _ _ i9
 have hp := inB_iff.1 i7
 have hl : L.length = P.length := by simp at i8; omega
 refine ⟨inB_iff.1 i1, stripes_cases i2, inB_iff.1 i3, inB_iff.1 i4, inB_iff.1 i5, inB_iff.1 i6, by omega, hl, fun i hi => inB_iff.1 (hr i (Nat.zero_le _) (by omega)).1, ?_, fun i h0 hi => ?_⟩
 · have := (hr 0 (Nat.le_refl _) (by omega)).2
   simpa using this
 · have := (hr i (Nat.zero_le _) (by omega)).2
   rw [if_neg (by omega)] at this
   exact inB_iff.1 this
theorem Right.sb {t s g l r k : Int} {P L : List Int} (h : Right t s g l r k P L) : 1 ≤ s ∧ s ≤ 8 := by have := h.s; omega
end Go.Proofs.Ythaceckccobgeaa

namespace Go.Proofs.Ythaceckccobgeaa
open Go.RowKit
set_option linter.unusedVariables false
set_option linter.unusedSimpArgs false
def RefOK (B : Nat) (w : World) (m : Nat) (lv : Value) (W : List Int) (L : List Acc) : Prop := ∃ A c, RefAt B w m A c lv W L
theorem RefOK.same {B : Nat} {w w' : World} {m : Nat} {lv : Value} {W : List Int} {L : List Acc} (h : RefOK B w m lv W L) (hk : Keep (fun _ => False) w w') : RefOK B w' m lv W L := by
 obtain ⟨A, c, h⟩ := h
 exact ⟨A, c, h.keep hk (fun _ _ h => h)⟩
theorem ref_Poke' (B : Nat) (w : World) (m : Nat) (lv : Value) (W : List Int) (L : List Acc) (i x : Int) (hm : RefOK B w m lv W L) (h0 : 0 ≤ i) (hi : i < W.length) (hW : W.length ≤ 1000000) :
 Calls Try.prog 31 #[ptr m, i64 i, i64 x] w fun e w' => e = .returned (.tuple #[]) ∧ RefOK B w' m lv (W.set i.toNat x) L ∧ Keep (fun k => k = m) w w' := by
 obtain ⟨A, c, hm⟩ := hm
 exact (ref_Poke B w m A c lv W L i x hm h0 hi hW).mono fun e w' ⟨h1, A', c', h2, h3, _⟩ => ⟨h1, ⟨A', c', h2⟩, h3⟩
set_option maxHeartbeats 4000000 in
set_option maxRecDepth 100000 in
theorem ref_Fresh (B : Nat) (w : World) (lb lo : Nat) (t s g l r k : Int) (PA : Option Addr) (pn pc ln lc : Nat) (L : List Int)
 (hB : B ≤ w.heap.size) (hs0 : 1 ≤ s) (hs1 : s ≤ 8) (hk0 : 0 ≤ k) (hk1 : k ≤ 100) (hp : pn ≤ 100) (hpl : pn ≤ ln) (hL : ∀ i, i < pn → w.cell? ⟨lb, lo + i, none⟩ = some (i64 (rd L i))) (hlb : lb < w.heap.size) :
 Calls Try.prog 13 #[.agg #[i64 t, i64 s, i64 g, i64 l, i64 r, i64 k, .slice PA pn pc, .slice (some ⟨lb, lo, none⟩) ln lc]] w fun e w' => ∃ m, e = .returned (ptr m) ∧ RefOK B w' m (.slice none 0 0) (freshW s k pn L) [] ∧ Keep0 w w' ∧ w.heap.size ≤ m := by
 have hmm := mul_bd 100 22 (show (0 : Int) ≤ pn by omega) (by omega) (show 0 ≤ 6 + 2 * s by omega) (by omega)
 have hlz := hlb
 have hlzs := lts hlb
 go_enter Try.func13, Try.ntmps13
 go_wp2_with fail
 refine (ref_Size t s g l r k PA pn pc (some ⟨lb, lo, none⟩) ln lc _ hs0 hs1 hk0 (by omega) (by omega)).mono ?_
 rintro e w1 ⟨rfl, hk1'⟩
 have HK1 : Hid (Keep0 w w1) := hid (Keep0.step (by repeat (with_reducible first | exact Keep.refl _ _ | apply Keep.alloc | apply Keep.drewN | apply Keep.drew)) hk1')
 have HCB := hid (hk1'.blk (Blk.made (b := w.heap.size) (w := w) (t := 24) (cs := [i64 t, i64 s, i64 g, i64 l, i64 r, i64 k, .slice PA pn pc, .slice (some ⟨lb, lo, none⟩) ln lc]) rfl rfl) (fun h => h))
 clear hk1'
 go_wp2_with fail
 refine (ref_New B _ _ (Nat.le_trans hB HK1.out.size) (by omega) (by omega)).mono ?_
 rintro e w2 ⟨m, A, c, rfl, hm, hk2, hzm⟩
 have HCB2 := hid (hk2.blk HCB.out (fun h => h))
 have HK2 : Hid (Keep0 w w2) := hid (Keep0.step HK1.out hk2)
 have hm0 : w1.heap.size ≤ m := hzm m (Or.inl rfl)
 have hm1 := Nat.le_trans HK1.out.size hm0
 have hcm : w.heap.size ≠ m := by have := HCB.out.lt; omega
 have hlm : lb ≠ m := by omega
 have HLZ := hid (Nat.lt_of_lt_of_le hlb HK2.out.size)
 have HM := hid (show RefOK B w2 m _ _ _ from ⟨A, c, hm⟩)
 have HL := hid (fun i hi => (cell_old HK2.out hlb (fun h => h) _).trans (hL i hi))
 clear HCB hm hk2 hzm hL
 have cbs := HCB2.out.k8
 go_wp2_with fail
 go_loopw [4] (fun v wr => ∃ i : Nat, i ≤ pn ∧ v = .int .i64 i ∧ RefOK B wr m (.slice none 0 0) (layN s L i (List.replicate (pn * (6 + 2 * s) + 2 * k).toNat 0)) [] ∧ Keep (fun k => k = m) w2 wr) (fun v _ => pn - (intOf v).toNat)
 case atStart => exact ⟨0, Nat.zero_le _, rfl, HM.out, Keep.refl _ _⟩
 case round =>
  obtain ⟨i, hi, rfl, hmi, hki⟩ := hrel
  have HMC := hid hmi
  have HKC := hid hki
  clear hmi hki
  have cb1 := (HKC.out.blk HCB2.out hcm).k8
  by_cases hlt : i < pn
  · have hiln : i < ln := by omega
    have hlen : (layN s L i (List.replicate (pn * (6 + 2 * s) + 2 * k).toNat 0)).length = (pn * (6 + 2 * s) + 2 * k).toNat := by rw [layN_length, List.length_replicate]
    have h1 : ((i : Int) + 1) * (6 + 2 * s) ≤ (pn : Int) * (6 + 2 * s) := Int.mul_le_mul_of_nonneg_right (by omega) (by omega)
    have h2 : ((i : Int) + 1) * (6 + 2 * s) = i * (6 + 2 * s) + (6 + 2 * s) := by rw [Int.add_mul, Int.one_mul]
    have h3 := mul_bd 100 22 (show (0 : Int) ≤ i by omega) (by omega) (show 0 ≤ 6 + 2 * s by omega) (by omega)
    have hX : layN s L (i + 1) (List.replicate (pn * (6 + 2 * s) + 2 * k).toNat 0) = layW s i (rd L i) (layN s L i (List.replicate (pn * (6 + 2 * s) + 2 * k).toNat 0)) := rfl
    have HX := hid (HL.out i hlt)
    have HXX := hid hX
    clear hX
    generalize layN s L i (List.replicate (pn * (6 + 2 * s) + 2 * k).toNat 0) = W at *
    go_upto_region 5 with fail
    go_cut [] (fun wx => RefOK B wx m (.slice none 0 0) (W.set ((i : Int) * (6 + 2 * s)).toNat (rd L i)) [] ∧ Keep (fun k => k = m) w2 wx)
    case first =>
     apply wp_region_text (WI := fun S wx => Keep (fun k => k = m) w2 wx ∧ (S 9 = false → RefOK B wx m (.slice none 0 0) (W) []) ∧ (S 9 = true → RefOK B wx m (.slice none 0 0) (W.set ((i : Int) * (6 + 2 * s)).toNat (rd L i)) [])) (by kernel_rfl) (by kernel_rfl)
     case hob =>
      iterate 3
       apply Oblig.cons
       case h =>
        intro S w1 hwi hSi hd hcl
        apply StepOk.intro
        intro K hK
        have cb1 := (hwi.1.blk HCB2.out hcm).k8
        have hx1 := (cell_old hwi.1 HLZ.out hlm _).trans HX.out
        go_simp
        apply hK
        · rfl
        · conv => (lhs; whnf)
        · exact hwi
       simp only [put_lit, put_none]
       try dsimp only [List.set_cons_succ, List.set_cons_zero]
      apply Oblig.cons
      case h =>
       intro S w1 hwi hSi hd hcl
       apply StepOk.intro
       intro K hK
       have cb1 := (hwi.1.blk HCB2.out hcm).k8
       have hx1 := (cell_old hwi.1 HLZ.out hlm _).trans HX.out
       go_simp
       refine (ref_Limit t s g l r k PA pn pc (some ⟨lb, lo, none⟩) ln lc i _ hs0 hs1 (by omega) (by omega)).mono ?_
       rintro e w2 ⟨rfl, hk⟩
       apply hK
       · rfl
       · conv => (lhs; whnf)
       · exact ⟨hwi.1.trans (hk.to (S := fun k => k = m)) (fun _ _ h => h), fun h => (hwi.2.1 h).same hk, fun h => (hwi.2.2 h).same hk⟩
      simp only [put_lit, put_none]
      try dsimp only [List.set_cons_succ, List.set_cons_zero]
      iterate 5
       apply Oblig.cons
       case h =>
        intro S w1 hwi hSi hd hcl
        apply StepOk.intro
        intro K hK
        have cb1 := (hwi.1.blk HCB2.out hcm).k8
        have hx1 := (cell_old hwi.1 HLZ.out hlm _).trans HX.out
        go_simp
        apply hK
        · rfl
        · conv => (lhs; whnf)
        · exact hwi
       simp only [put_lit, put_none]
       try dsimp only [List.set_cons_succ, List.set_cons_zero]
      apply Oblig.cons
      case h =>
       intro S w1 hwi hSi hd hcl
       apply StepOk.intro
       intro K hK
       have cb1 := (hwi.1.blk HCB2.out hcm).k8
       have hx1 := (cell_old hwi.1 HLZ.out hlm _).trans HX.out
       go_simp
       refine (ref_Poke' B _ m _ _ _ _ (rd L i) (hwi.2.1 hSi) (by omega) (by first | omega | (simp; omega)) (by first | omega | (simp; omega))).mono ?_
       rintro e w2 ⟨rfl, hm2, hk2⟩
       apply hK
       · rfl
       · conv => (lhs; whnf)
       · exact ⟨hwi.1.trans hk2 (fun _ _ h => h), fun h => by simp [upd] at h, fun _ => hm2⟩
      simp only [put_lit, put_none]
      try dsimp only [List.set_cons_succ, List.set_cons_zero]
      exact Oblig.nil
     case h0 =>
      exact ⟨HKC.out.drew, fun _ => HMC.out.same (Keep.refl _ _).drew, fun h => by cases h⟩
     case hend =>
      intro S wx hwi hall
      go_wp2_with fail
      go_meet
      exact ⟨hwi.2.2 (hall 9 (by decide)), hwi.1⟩
    case rest =>
     obtain ⟨hm1, hk1⟩ := hcut
     clear cb1 HMC HKC
     have HMC := hid hm1
     have HKC := hid hk1
     clear hm1 hk1
     have cb1 := (HKC.out.blk HCB2.out hcm).k8
     go_upto_region 6 with fail
     go_cut [] (fun wx => RefOK B wx m (.slice none 0 0) ((W.set ((i : Int) * (6 + 2 * s)).toNat (rd L i)).set ((i : Int) * (6 + 2 * s) + 1).toNat (rd L i)) [] ∧ Keep (fun k => k = m) w2 wx)
     case first =>
      apply wp_region_text (WI := fun S wx => Keep (fun k => k = m) w2 wx ∧ (S 9 = false → RefOK B wx m (.slice none 0 0) (W.set ((i : Int) * (6 + 2 * s)).toNat (rd L i)) []) ∧ (S 9 = true → RefOK B wx m (.slice none 0 0) ((W.set ((i : Int) * (6 + 2 * s)).toNat (rd L i)).set ((i : Int) * (6 + 2 * s) + 1).toNat (rd L i)) [])) (by kernel_rfl) (by kernel_rfl)
      case hob =>
       iterate 3
        apply Oblig.cons
        case h =>
         intro S w1 hwi hSi hd hcl
         apply StepOk.intro
         intro K hK
         have cb1 := (hwi.1.blk HCB2.out hcm).k8
         have hx1 := (cell_old hwi.1 HLZ.out hlm _).trans HX.out
         go_simp
         apply hK
         · rfl
         · conv => (lhs; whnf)
         · exact hwi
        simp only [put_lit, put_none]
        try dsimp only [List.set_cons_succ, List.set_cons_zero]
       apply Oblig.cons
       case h =>
        intro S w1 hwi hSi hd hcl
        apply StepOk.intro
        intro K hK
        have cb1 := (hwi.1.blk HCB2.out hcm).k8
        have hx1 := (cell_old hwi.1 HLZ.out hlm _).trans HX.out
        go_simp
        refine (ref_Avail t s g l r k PA pn pc (some ⟨lb, lo, none⟩) ln lc i _ hs0 hs1 (by omega) (by omega)).mono ?_
        rintro e w2 ⟨rfl, hk⟩
        apply hK
        · rfl
        · conv => (lhs; whnf)
        · exact ⟨hwi.1.trans (hk.to (S := fun k => k = m)) (fun _ _ h => h), fun h => (hwi.2.1 h).same hk, fun h => (hwi.2.2 h).same hk⟩
       simp only [put_lit, put_none]
       try dsimp only [List.set_cons_succ, List.set_cons_zero]
       iterate 5
        apply Oblig.cons
        case h =>
         intro S w1 hwi hSi hd hcl
         apply StepOk.intro
         intro K hK
         have cb1 := (hwi.1.blk HCB2.out hcm).k8
         have hx1 := (cell_old hwi.1 HLZ.out hlm _).trans HX.out
         go_simp
         apply hK
         · rfl
         · conv => (lhs; whnf)
         · exact hwi
        simp only [put_lit, put_none]
        try dsimp only [List.set_cons_succ, List.set_cons_zero]
       apply Oblig.cons
       case h =>
        intro S w1 hwi hSi hd hcl
        apply StepOk.intro
        intro K hK
        have cb1 := (hwi.1.blk HCB2.out hcm).k8
        have hx1 := (cell_old hwi.1 HLZ.out hlm _).trans HX.out
        go_simp
        refine (ref_Poke' B _ m _ _ _ _ (rd L i) (hwi.2.1 hSi) (by omega) (by first | omega | (simp; omega)) (by first | omega | (simp; omega))).mono ?_
        rintro e w2 ⟨rfl, hm2, hk2⟩
        apply hK
        · rfl
        · conv => (lhs; whnf)
        · exact ⟨hwi.1.trans hk2 (fun _ _ h => h), fun h => by simp [upd] at h, fun _ => hm2⟩
       simp only [put_lit, put_none]
       try dsimp only [List.set_cons_succ, List.set_cons_zero]
       exact Oblig.nil
      case h0 =>
       exact ⟨HKC.out.drew, fun _ => HMC.out.same (Keep.refl _ _).drew, fun h => by cases h⟩
      case hend =>
       intro S wx hwi hall
       go_wp2_with fail
       go_meet
       exact ⟨hwi.2.2 (hall 9 (by decide)), hwi.1⟩
     case rest =>
      obtain ⟨hm1, hk1⟩ := hcut
      clear cb1 HMC HKC
      have HMC := hid hm1
      have HKC := hid hk1
      clear hm1 hk1
      have cb1 := (HKC.out.blk HCB2.out hcm).k8
      go_wp2_with fail
      refine (ref_Counter t s g l r k PA pn pc (some ⟨lb, lo, none⟩) ln lc i _ hs0 hs1 (by omega) (by omega)).mono ?_
      rintro e w3 ⟨rfl, hk3⟩
      have HM3 := hid (HMC.out.same hk3)
      have HK3 := hid (HKC.out.trans (hk3.to (S := fun k => k = m)) (fun _ _ h => h))
      clear hk3
      go_wp2_with fail
      refine (ref_Poke' B _ m _ _ _ _ 1 HM3.out (by omega) (by first | omega | (simp; omega)) (by first | omega | (simp; omega))).mono ?_
      rintro e w4 ⟨rfl, hm4, hk4⟩
      have HM4 := hid hm4
      have HK4 := hid (HK3.out.trans hk4 (fun _ _ h => h))
      clear hm4 hk4
      go_wp2_with fail
      go_roundw
      case rel => exact ⟨i + 1, by omega, by go_num, by rw [HXX.out]; exact HM4.out, HK4.out⟩
      case measure => simp [intOf]; omega
  · have hie : i = pn := by omega
    have HF := hid (show layN s L i (List.replicate (pn * (6 + 2 * s) + 2 * k).toNat 0) = freshW s k pn L by rw [hie]; rfl)
    clear hie
    go_wp2_with fail
    go_ret
    refine ⟨m, rfl, HF.out ▸ HMC.out, HK2.out.trans (T := fun k => k = m) HKC.out ?_ |>.mono (fun _ h => h), hm1⟩
    rintro k hk rfl
    omega
end Go.Proofs.Ythaceckccobgeaa
