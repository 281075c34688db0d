/- ClaimTells: what a machine does, answers, and leaves, whatever tickets' words are, and others do, is the document's. -/
import Derived.Test.YtjloccnbcgkmgaaLawClaim
import Derived.Test.YtjloccnbcgkmgaaHeadClaim
import Derived.Test.YtjloccnbcgkmgaaClaimL
import Derived.Test.YtjloccnbcgkmgaaClaimK
import Derived.Test.YtjloccnbcgkmgaaRowThree
import Derived.Test.YtjloccnbcgkmgaaLog
import Derived.Test.YtjloccnbcgkmgaaSame
import Derived.Test.YtjloccnbcgkmgaaGhost
import Derived.Test.YtjloccnbcgkmgaaRegionF
import Derived.Test.YtjloccnbcgkmgaaRefElevenS
namespace Go.Proofs.Ytjloccnbcgkmgaa
open Go.RowKit
set_option linter.unusedVariables false
set_option linter.unusedSimpArgs false
set_option maxRecDepth 100000
/-- the region that compares (27: the log, 36: the words) -/
def WTe (w0 : World) (LL : List Acc) (VV : List Int) (S : Nat → Bool) (gh : Nat → Value) (wx : World) : Prop :=
  Keep0 w0 wx ∧ (S 27 = true → ∃ A c, gh 27 = .slice A LL.length c ∧ AccsAt wx A LL) ∧ (S 36 = true → ∃ A c, gh 36 = .slice A VV.length c ∧ IntsAt wx A VV)
section
variable {w0 wx w2 : World} {LL : List Acc} {VV : List Int} {S : Nat → Bool} {gh : Nat → Value}
theorem WTe.fixed {i : Nat} (h : WTe w0 LL VV S gh wx) (h1 : i ≠ 27 ∧ i ≠ 36) : WTe w0 LL VV (upd S i) gh wx := by
  unfold WTe
  rw [show upd S i 27 = S 27 from by simp [upd, Ne.symm h1.1], show upd S i 36 = S 36 from by simp [upd, Ne.symm h1.2]]
  exact h
theorem WTe.keep (h : WTe w0 LL VV S gh wx) (hk : Keep0 wx w2) : WTe w0 LL VV S gh w2 := by
  obtain ⟨h1, h2, h3⟩ := h
  refine ⟨h1.trans hk (fun _ _ h => h), fun e => ?_, fun e => ?_⟩
  · obtain ⟨A, c, e, h⟩ := h2 e; exact ⟨A, c, e, h.keep hk⟩
  · obtain ⟨A, c, e, h⟩ := h3 e; exact ⟨A, c, e, h.keep hk⟩
theorem WTe.log (h : WTe w0 LL VV S gh wx) (hk : Keep0 wx w2) {A : Option Addr} {c : Nat} (ha : AccsAt w2 A LL) : WTe w0 LL VV (upd S 27) (updv gh 27 (.slice A LL.length c)) w2 := by
  obtain ⟨h1, h2, h3⟩ := h.keep hk
  unfold WTe
  rw [show upd S 27 36 = S 36 from by simp [upd], updv_same, updv_ne (show (36 : Nat) ≠ 27 by decide)]
  exact ⟨h1, fun _ => ⟨A, c, rfl, ha⟩, h3⟩
theorem WTe.words (h : WTe w0 LL VV S gh wx) (hk : Keep0 wx w2) {A : Option Addr} {c : Nat} (ha : IntsAt w2 A VV) : WTe w0 LL VV (upd S 36) (updv gh 36 (.slice A VV.length c)) w2 := by
  obtain ⟨h1, h2, h3⟩ := h.keep hk
  unfold WTe
  rw [show upd S 36 27 = S 27 from by simp [upd], updv_same, updv_ne (show (27 : Nat) ≠ 36 by decide)]
  exact ⟨h1, h2, fun _ => ⟨A, c, rfl, ha⟩⟩
end
theorem refLog11 {B : Nat} {w : World} {m : Nat} {A : Option Addr} {c : Nat} {lv : Value} {W : List Int} {L : List Acc} (h : RefAt B w m A c lv W L) : ∃ LA LC, lv = .slice LA L.length LC ∧ AccsAt w LA L := by
  have hl := h.log
  rcases hl.2 with ⟨e, h0⟩ | ⟨g, cap, cur, e, _, _, _⟩
  · exact ⟨none, 0, by rw [e, h0], Or.inl (List.eq_nil_of_length_eq_zero h0)⟩
  · exact ⟨some ⟨g, 0, none⟩, cap, e, accs_of_row (e ▸ hl) rfl⟩
section
variable {B : Nat} {w w' : World} {m a x rm wg : Nat} {lv : Value} {W W2 : List Int} {L L2 : List Acc} {C : CC} {K s q gl c rc : Nat} {t : CS}
theorem clplay_ref (hr : RefAt B w rm (some ⟨wg, 0, none⟩) rc (.slice none 0 0) W2 L2) (hm : MemAt B w m a lv W L) (hx : ClAt C K s gl c w x t) (hga : wg ≠ a)
    (hk : Keep (fun k => (k = m ∨ k = a ∨ k = x ∨ lv.ownBlock = some k) ∨ w.heap.size ≤ k) w w') : RefAt B w' rm (some ⟨wg, 0, none⟩) rc (.slice none 0 0) W2 L2 := hr.keep hk (fun k hkk => by
  obtain ⟨o, hx⟩ := hx.blk
  have hzr := hr.mem.lt
  have hz : k = rm ∨ (k = wg ∧ ∃ cs, Blk w wg 3 cs) := by
    rcases hkk with h2 | h2 | h2
    · exact Or.inl h2
    · have h3 : wg = k := by simpa [Value.ownBlock] using h2
      refine Or.inr ⟨h3.symm, ?_⟩
      rcases hr.words.2 with ⟨e, _⟩ | ⟨g, cap, cur, e, _, hb, _⟩
      · cases e
      · cases e
        exact ⟨_, (show Blk w wg 3 cur.toList from by unfold Blk; simpa using hb)⟩
    · simp [Value.ownBlock] at h2
  rcases hz with rfl | ⟨rfl, cs, hwb⟩
  · rintro ((h | h | h | h) | h)
    · exact hr.mem.ne hm.mem (by decide) h
    · exact hr.mem.ne hm.words (by decide) h
    · exact hr.mem.ne hx (by decide) h
    · exact ownBlock_ne hm.log hr.mem (by decide) h.symm
    · omega
  · rintro ((h | h | h | h) | h)
    · exact hwb.ne hm.mem (by decide) h
    · exact hga h
    · exact hwb.ne hx (by decide) h
    · exact ownBlock_ne hm.log hwb (by decide) h.symm
    · have := hwb.lt; omega)
theorem mem_rplay {y : Nat} {cs : List Value} {A : Option Addr} (hm : MemAt B w m a lv W L) (hr : RefAt B w rm A rc (.slice none 0 0) W2 L2) (hy : Blk w y 91 cs)
    (hk : Keep (fun k => (k = rm ∨ k = y ∨ (Value.slice none 0 0).ownBlock = some k) ∨ w.heap.size ≤ k) w w') : MemAt B w' m a lv W L := hm.keep hk (fun k hkk => by
    rintro ((h | h | h) | h)
    · rcases hkk with h2 | h2 | h2
      · exact hr.mem.ne hm.mem (by decide) (h.symm.trans h2)
      · exact hr.mem.ne hm.words (by decide) (h.symm.trans h2)
      · exact ownBlock_ne hm.log hr.mem (by decide) (by rw [← h]; exact h2.symm)
    · rcases hkk with h2 | h2 | h2
      · exact hy.ne hm.mem (by decide) (h.symm.trans h2)
      · exact hy.ne hm.words (by decide) (h.symm.trans h2)
      · exact ownBlock_ne hm.log hy (by decide) (by rw [← h]; exact h2.symm)
    · simp [Value.ownBlock] at h
    · rcases hkk with h2 | h2 | h2
      · have := hm.mem.lt; omega
      · have := hm.words.lt; omega
      · have := (hm.log.lt k h2).2; omega)
theorem cl_rplay {y : Nat} {cs : List Value} {A : Option Addr} (hx : ClAt C K s gl c w x t) (hr : RefAt B w rm A rc (.slice none 0 0) W2 L2) (hy : Blk w y 91 cs)
    (hk : Keep (fun k => (k = rm ∨ k = y ∨ (Value.slice none 0 0).ownBlock = some k) ∨ w.heap.size ≤ k) w w') : ClAt C K s gl c w' x t := hx.keep hk (by
  obtain ⟨o, hx⟩ := hx.blk
  rintro ((h | h | h) | h)
  · exact hx.ne hr.mem (by decide) h
  · exact hx.ne hy (by decide) h
  · simp [Value.ownBlock] at h
  · have := hx.lt; omega)
end
set_option maxHeartbeats 4000000 in
theorem claimTells_walk {w : World} {v0 v1 v2 : Value} (hc : ConfIn w v0) (hv : ∃ l, IntsIn w v1 l) (hpk : ∃ l, pksIn w v2 l) (st : Int) (hst : (Lit.int .u16 st).wf = true) (most : Int) (hy : (Lit.int .u8 most).wf = true) : Calls Try.prog 8 #[v0, v1, v2, .int .u16 st, .int .u8 most] w (Ret (.bool true) w) := by
  have hst := bounds_u16 hst
  have hy := bounds_u8 hy
  obtain ⟨t, s, g, l, r, k, P, L, PA, pc, LA, lc, rfl, hP, hL, hp1, hl1⟩ := hc
  obtain ⟨V, VA, vc, rfl, hv1, hV⟩ := hv
  obtain ⟨KK, KA, kc, rfl, hkk1, hKK⟩ := hpk
  have HKK := hid hKK
  clear hKK
  have HGD := hid (fun (w' : World) (hk : Keep0 w w') => law11_Good t s g l r k PA P pc LA L lc VA V.length vc KA KK.length kc w' (hP.keep hk) (hL.keep hk) hp1 hl1)
  have HPI := hid hP
  have HLI := hid hL
  have HVI := hid hV
  clear hP hL hV hp1 hl1
  have HK0 : Hid (Keep0 w (w.alloc (.cells #[i64 t, i64 s, i64 g, i64 l, i64 r, i64 k, .slice PA P.length pc, .slice LA L.length lc] 24))) := hid ((Keep.refl _ _).alloc _)
  have hs0 : 0 ≤ st % 1001 := Int.emod_nonneg _ (by omega)
  have hs1 : st % 1001 < 1001 := Int.emod_lt_of_pos _ (by omega)
  obtain ⟨S, hS⟩ := Int.eq_ofNat_of_zero_le hs0
  have HS := hid hS
  have hS9 : S < 1001 := by omega
  clear hS hs0 hs1
  have hq0 : 0 ≤ most % 50 := Int.emod_nonneg _ (by omega)
  have hq1 : most % 50 < 50 := Int.emod_lt_of_pos _ (by omega)
  obtain ⟨mo, hmo⟩ := Int.eq_ofNat_of_zero_le hq0
  have HMO := hid hmo
  have hmo9 : mo < 50 := by omega
  clear hmo hq0 hq1
  
  go_enter Try.func8, Try.ntmps8
  go_wp2_with fail
  have HB : Hid (Blk (w.alloc (.cells #[i64 t, i64 s, i64 g, i64 l, i64 r, i64 k, .slice PA P.length pc, .slice LA L.length lc] 24)) w.heap.size 24 [i64 t, i64 s, i64 g, i64 l, i64 r, i64 k, .slice PA P.length pc, .slice LA L.length lc]) := hid (Blk.made rfl rfl)
  have qHB := HB.out.k8
  refine (law11_head _).mono ?_
  rintro e w1 ⟨rfl, hk⟩
  have HK1 : Hid (Keep0 w w1) := hid (Keep0.step (by repeat (with_reducible first | exact Keep.refl _ _ | exact HK0.out | apply Keep.alloc | apply Keep.drewN | apply Keep.drew)) hk)
  have THB := hk.blk (show Blk _ _ _ _ from by repeat (with_reducible first | exact HB.out | apply Blk.alloc | apply Blk.drewN | apply Blk.drew)) (fun h => h)
  clear hk qHB HB HK0
  have HB := hid THB
  clear THB
  have qHB := HB.out.k8
  go_wp2_with fail
  refine (HGD.out _ HK1.out).mono ?_
  rintro e w2 ⟨rfl, hk⟩
  have HK2 : Hid (Keep0 w w2) := hid (Keep0.step (by repeat (with_reducible first | exact Keep.refl _ _ | exact HK1.out | apply Keep.alloc | apply Keep.drewN | apply Keep.drew)) hk)
  have THB := hk.blk (show Blk _ _ _ _ from by repeat (with_reducible first | exact HB.out | apply Blk.alloc | apply Blk.drewN | apply Blk.drew)) (fun h => h)
  clear hk qHB HB HK1
  have HB := hid THB
  clear THB
  have qHB := HB.out.k8
  clear HGD
  cases hgood : good11 t s g l r k P L V.length KK.length
  · go_wp2_with fail
    go_ret
    exact ⟨rfl, HK2.out⟩
  simp only [good11, Bool.and_eq_true, decide_eq_true_eq] at hgood
  obtain ⟨⟨hgood, hv40⟩, hk40⟩ := hgood
  have R := Right.of hgood
  clear hgood hv1
  obtain ⟨K, rfl⟩ := Int.eq_ofNat_of_zero_le (show 0 ≤ k by have := R.k; omega)
  have hs := R.sb
  have hp := R.p
  have hK : 1 ≤ K ∧ K ≤ 16 := by have := R.k; omega
  have hm4 := mul_bd 12 22 (show (0 : Int) ≤ P.length by omega) (by omega) (show 0 ≤ 6 + 2 * s by omega) (by omega)
  obtain ⟨q, hq⟩ : ∃ q : Nat, (q : Int) = P.length * (6 + 2 * s) := ⟨((P.length : Int) * (6 + 2 * s)).toNat, by omega⟩
  have hq264 : q ≤ 264 := by omega
  have HWO := hid (fun (w' : World) (hk : Keep0 w w') => law11_words t s g l r K q PA P pc LA L lc VA V vc w' (HLI.out.keep hk) (HVI.out.keep hk) R hq hv40)
  have hln : q + 2 * K = (words11 s K P.length q L V).length := by rw [words11, tkW_length, freshW_length]; omega
  have hpl1 := R.p
  have HPL2 := hid R.len
  have HQ := hid hq
  have HR := hid R
  clear hm4 R hq HVI
  generalize words11 s K P.length q L V = WW at *
  have hWm : WW.length ≤ 10000 := by omega
  have hW0 : 0 < WW.length := by omega
  have hk2s := HK2.out.size
  go_wp2_with fail
  refine (HWO.out _ HK2.out).mono ?_
  rintro e w3 ⟨WA, Wc, rfl, how, hk⟩
  have HK3 : Hid (Keep0 w w3) := hid (Keep0.step (by repeat (with_reducible first | exact Keep.refl _ _ | exact HK2.out | apply Keep.alloc | apply Keep.drewN | apply Keep.drew)) hk)
  have THB := hk.blk (show Blk _ _ _ _ from by repeat (with_reducible first | exact HB.out | apply Blk.alloc | apply Blk.drewN | apply Blk.drew)) (fun h => h)
  clear hk qHB HB HK2
  have HB := hid THB
  clear THB
  have qHB := HB.out.k8
  obtain ⟨wg, rfl, hwg, hwge⟩ := ints_own how (by omega) rfl
  have HOW := hid (own_base how hk2s)
  have HWG := hid hwg
  clear hwg HWO
  have hwz : w.heap.size ≤ wg := Nat.le_trans hk2s hwge
  clear hk2s
  clear how hwge
  have hwg3 := HWG.out.lt
  have hk3s := HK3.out.size
  go_wp2_with fail
  refine (law8_Laid w.heap.size _ _ _ WW HWG.out.at_ hWm HK3.out.size).mono ?_
  rintro e w4 ⟨m, a, lv, rfl, hm, hk, hzm, hza⟩
  have HK4 : Hid (Keep0 w w4) := hid (Keep0.step (by repeat (with_reducible first | exact Keep.refl _ _ | exact HK3.out | apply Keep.alloc | apply Keep.drewN | apply Keep.drew)) hk)
  have THB := hk.blk (show Blk _ _ _ _ from by repeat (with_reducible first | exact HB.out | apply Blk.alloc | apply Blk.drewN | apply Blk.drew)) (fun h => h)
  have THWG := hk.ints (show Ints _ _ _ from by repeat (with_reducible first | exact HWG.out | apply Ints.alloc | apply Ints.drewN | apply Ints.drew)) (fun h => h)
  have THOW := ownsRow_keep (show World.ownsRow _ _ _ _ _ _ _ from HOW.out) (show Keep0 w3 _ from by repeat (with_reducible first | exact Keep0.step (Keep.refl _ _) hk | apply Keep.alloc | apply Keep.drew)) (fun _ _ h => h)
  clear hk qHB HB HWG HOW HK3
  have HB := hid THB
  clear THB
  have qHB := HB.out.k8
  have HWG := hid THWG
  clear THWG
  have HOW := hid THOW
  clear THOW
  have HM := hid hm
  have hzm' : w.heap.size ≤ m := Nat.le_trans hk3s hzm
  have hza' : w.heap.size ≤ a := Nat.le_trans hk3s hza
  clear hk3s
  have hwgm : wg ≠ a := by omega
  have hwgm2 : wg ≠ m := by omega
  clear hm hzm hza hwg3
  clear HWG
  go_wp2_with fail
  rw [HS.out]
  have hb0s := HK4.out.size
  obtain ⟨w5, hw7⟩ : ∃ w', w' = w4.alloc (.cells #[.slice (some ⟨wg, 0, none⟩) WW.length Wc, .slice none 0 0] 59) := ⟨_, rfl⟩
  rw [← hw7]
  obtain ⟨rm, hrm⟩ : ∃ rm, rm = w4.heap.size := ⟨_, rfl⟩
  rw [← hrm]
  have hk : Keep0 w4 w5 := by rw [hw7]; exact (Keep.refl _ _).alloc _
  have hs7 : w5.heap.size = rm + 1 := by rw [hw7, hrm]; simp
  have hbm : Blk w5 rm 59 [.slice (some ⟨wg, 0, none⟩) WW.length Wc, .slice none 0 0] := by rw [hw7, hrm]; exact Blk.made rfl rfl
  have how := ownsRow_keep (show World.ownsRow _ _ _ _ _ _ _ from HOW.out) hk (fun _ _ h => h)
  have hrmz : w.heap.size ≤ rm := by omega
  have HRF := hid (show RefAt w.heap.size w5 rm (some ⟨wg, 0, none⟩) Wc (.slice none 0 0) WW [] from ⟨by omega, hrmz, hbm, how, by simpa [accs] using World.ownsRow_nil _ _ _ _⟩)
  clear hw7 hrm how hbm hb0s hs7
  clear HOW
  have HK5 : Hid (Keep0 w w5) := hid (Keep0.step (by repeat (with_reducible first | exact Keep.refl _ _ | exact HK4.out | apply Keep.alloc | apply Keep.drewN | apply Keep.drew)) hk)
  have THB := hk.blk (show Blk _ _ _ _ from by repeat (with_reducible first | exact HB.out | apply Blk.alloc | apply Blk.drewN | apply Blk.drew)) (fun h => h)
  have THM := MemAt.same (by repeat (with_reducible first | exact HM.out | apply MemAt.alloc | apply MemAt.drew)) hk
  clear hk qHB HB HM HK4
  have HB := hid THB
  clear THB
  have qHB := HB.out.k8
  have HM := hid THM
  clear THM
  have haz := HM.out.words.lt
  have hks := HK5.out.size
  refine (claim_New ⟨t, s, g, l, r, PA, P.length, pc, LA, L.length, lc⟩ K (S) _ hK (by omega)).mono ?_
  rintro e w6 ⟨x, gl, cc, rfl, hx, hgl, hcap, hk, hcl, hr⟩
  have HK6 : Hid (Keep0 w w6) := hid (Keep0.step (by repeat (with_reducible first | exact Keep.refl _ _ | exact HK5.out | apply Keep.alloc | apply Keep.drewN | apply Keep.drew)) hk)
  have THB := hk.blk (show Blk _ _ _ _ from by repeat (with_reducible first | exact HB.out | apply Blk.alloc | apply Blk.drewN | apply Blk.drew)) (fun h => h)
  have THM := MemAt.same (by repeat (with_reducible first | exact HM.out | apply MemAt.alloc | apply MemAt.drew)) hk
  have THRF := RefAt.keep HRF.out hk (fun _ _ h => h)
  clear hk qHB HB HM HRF HK5
  have HB := hid THB
  clear THB
  have qHB := HB.out.k8
  have HM := hid THM
  clear THM
  have HRF := hid THRF
  clear THRF
  have hga : gl ≠ a := by omega
  have HX := hid (hcl WW [])
  have HR := hid hr
  have HCO : Hid (COk ⟨t, s, g, l, r, PA, P.length, pc, LA, L.length, lc⟩ K q cc) := hid ⟨HQ.out, hs, (by show P.length ≤ 1000; omega), hcap⟩
  have hzx : w.heap.size ≤ x := Nat.le_trans hks hx
  clear hks haz hx hgl hcap hcl hr
  go_wp2_with fail
  rw [HS.out]
  have hks := HK6.out.size
  refine (r11_New t s g l r K S P L PA pc LA lc _ (HPI.out.keep HK6.out) (HLI.out.keep HK6.out) (by omega) (by have h := HPL2.out; omega)).mono ?_
  rintro e w7 ⟨y, PA2, pc2, LA2, lc2, rfl, hyz, hk, hby⟩
  have HK7 : Hid (Keep0 w w7) := hid (Keep0.step (by repeat (with_reducible first | exact Keep.refl _ _ | exact HK6.out | apply Keep.alloc | apply Keep.drewN | apply Keep.drew)) hk)
  have THB := hk.blk (show Blk _ _ _ _ from by repeat (with_reducible first | exact HB.out | apply Blk.alloc | apply Blk.drewN | apply Blk.drew)) (fun h => h)
  have THM := MemAt.same (by repeat (with_reducible first | exact HM.out | apply MemAt.alloc | apply MemAt.drew)) hk
  have THRF := RefAt.keep HRF.out hk (fun _ _ h => h)
  have THX := ClAt.keep (show ClAt _ _ _ _ _ _ _ _ from by repeat (with_reducible first | exact HX.out | apply ClAt.alloc | apply ClAt.drewN | apply ClAt.drew)) hk (fun h => h)
  have THR := hk.ints (show Ints _ _ _ from by repeat (with_reducible first | exact HR.out | apply Ints.alloc | apply Ints.drewN | apply Ints.drew)) (fun h => h)
  clear hk qHB HB HM HRF HX HR HK6
  have HB := hid THB
  clear THB
  have qHB := HB.out.k8
  have HM := hid THM
  clear THM
  have HRF := hid THRF
  clear THRF
  have HX := hid THX
  clear THX
  have HR := hid THR
  clear THR
  have HY := hid (hby WW [])
  have hzy : w.heap.size ≤ y := Nat.le_trans hks hyz
  clear hby hyz hks HPI HLI
  have HCO2 : Hid (COk ⟨t, s, g, l, r, PA2, P.length, pc2, LA2, L.length, lc2⟩ K q K) := hid ⟨HQ.out, hs, (by show P.length ≤ 1000; omega), Nat.le_refl _⟩
  go_wp2_with fail
  have hml : ∀ k, MF m a lv k → k < w7.heap.size := by rintro k (rfl | rfl | h); exact HM.out.mem.lt; exact HM.out.words.lt; exact (HM.out.log.lt k h).2
  have hxl := HX.out.lt
  refine (law11_pokes t s g l r K q PA P.length pc LA L.length lc KA KK kc _ (HKK.out.keep HK7.out) hk40 hK hs (by omega) HQ.out).mono ?_
  rintro e w8 ⟨QA, qc, rfl, hpk, hk, hqa⟩
  have HK8 : Hid (Keep0 w w8) := hid (Keep0.step (by repeat (with_reducible first | exact Keep.refl _ _ | exact HK7.out | apply Keep.alloc | apply Keep.drewN | apply Keep.drew)) hk)
  have THB := hk.blk (show Blk _ _ _ _ from by repeat (with_reducible first | exact HB.out | apply Blk.alloc | apply Blk.drewN | apply Blk.drew)) (fun h => h)
  have THM := MemAt.same (by repeat (with_reducible first | exact HM.out | apply MemAt.alloc | apply MemAt.drew)) hk
  have THRF := RefAt.keep HRF.out hk (fun _ _ h => h)
  have THX := ClAt.keep (show ClAt _ _ _ _ _ _ _ _ from by repeat (with_reducible first | exact HX.out | apply ClAt.alloc | apply ClAt.drewN | apply ClAt.drew)) hk (fun h => h)
  have THR := hk.ints (show Ints _ _ _ from by repeat (with_reducible first | exact HR.out | apply Ints.alloc | apply Ints.drewN | apply Ints.drew)) (fun h => h)
  have THY := hk.blk (show Blk _ _ _ _ from by repeat (with_reducible first | exact HY.out | apply Blk.alloc | apply Blk.drewN | apply Blk.drew)) (fun h => h)
  clear hk qHB HB HM HRF HX HR HY HK7
  have HB := hid THB
  clear THB
  have qHB := HB.out.k8
  have HM := hid THM
  clear THM
  have HRF := hid THRF
  clear THRF
  have HX := hid THX
  clear THX
  have HR := hid THR
  clear THR
  have HY := hid THY
  clear THY
  have HPK := hid hpk
  have HQA := hid (fun (b o : Nat) (e : QA = some ⟨b, o, none⟩) => (show b ≠ m ∧ b ≠ a ∧ b ≠ x ∧ lv.ownBlock ≠ some b from by have h := hqa b o e; have h1 := hml m (Or.inl rfl); have h2 := hml a (Or.inr (Or.inl rfl)); exact ⟨by omega, by omega, by omega, fun e2 => by have := hml b (Or.inr (Or.inr e2)); omega⟩))
  clear hpk hqa hml hxl
  have hci2 : CInv K q (⟨WW, [], 0, false, 0, 0, 0, 0⟩ : CS) := CInv.start (by omega) (by omega) hK
  have HCI2 := hid hci2
  clear hci2
  go_wp2_with fail
  rw [HMO.out]
  have hci : CInv K q ⟨WW, [], 0, false, 0, 0, 0, 0⟩ := CInv.start (by omega) (by omega) hK
  obtain ⟨kb, ko, hkb, hkc⟩ := HPK.out.at_
  have hp := play_claim (B := w.heap.size) (w := w8) (m := m) (a := a) (x := x) (lv := lv) (K := K) (s := S) (q := q) ⟨WW, [], 0, false, 0, 0, 0, 0⟩ (KK.map (fk11 K q)) QA kb ko qc (mo) HM.out HX.out HR.out hga hci HCO.out (by simp) (by omega) (by rw [List.length_map]; omega) (fun h => by obtain ⟨e, hlt⟩ := hkb h; have h2 := HQA.out kb ko e; exact ⟨e, hlt, h2.2.1 |> fun _ => h2.1, h2.2.1, h2.2.2.1, h2.2.2.2⟩) hkc
  rw [List.length_map] at hp
  clear hkb hkc HQA
  rw [show (CS.mk WW [] 0 false 0 0 0 0).W.length = WW.length from rfl] at hp
  have hcp := cPlay (K := K) (s := S) (q := q) WW.length (KK.map (fk11 K q)) mo 0 ⟨WW, [], 0, false, 0, 0, 0, 0⟩ rfl rfl HCI2.out
  obtain ⟨PF, hPF⟩ : ∃ PF, PF = playF (cStp K S q) cPk WW.length (KK.map (fk11 K q)) mo 0 ⟨WW, [], 0, false, 0, 0, 0, 0⟩ := ⟨_, rfl⟩
  have HPF := hid hPF
  rw [← hPF] at hp hcp
  clear hPF
  obtain ⟨pt, pn, pb⟩ := PF
  simp only at hp hcp
  refine hp.mono ?_
  rintro e w9 ⟨rfl, ⟨kk, lv', hm, ho, hx, _, _, hin, _, hr, _⟩, hk⟩
  have THB := clplay_keeps HB.out HM.out HX.out (by decide) (by decide) (by decide) (by decide) hk
  have THRF := clplay_ref HRF.out HM.out HX.out hwgm hk
  have THY := clplay_keeps HY.out HM.out HX.out (by decide) (by decide) (by decide) (by decide) hk
  clear HPK
  have HK9 : Hid (Keep0 w w9) := hid (clplay_far HM.out hzx hk HK8.out rfl)
  clear hp ho HM HX HR HK8 hk qHB HB HRF HY
  obtain ⟨lv, hlv⟩ : ∃ v, v = lv' := ⟨_, rfl⟩
  subst hlv
  have HM := hid hm
  have HX := hid hx
  have HI := hid hin
  clear hm hx hr hin hci
  have HB := hid THB
  clear THB
  have qHB := HB.out.k8
  have HRF := hid THRF
  clear THRF
  have HY := hid THY
  clear THY
  go_wp2_with fail
  have hyl := HY.out.lt
  have hrl := HRF.out.mem.lt
  refine (law11_pokes t s g l r K q PA P.length pc LA L.length lc KA KK kc _ (HKK.out.keep HK9.out) hk40 hK hs (by omega) HQ.out).mono ?_
  rintro e w10 ⟨QA, qc, rfl, hpk, hk, hqa⟩
  have hks9 := hk.size
  have HK10 : Hid (Keep0 w w10) := hid (Keep0.step (by repeat (with_reducible first | exact Keep.refl _ _ | exact HK9.out | apply Keep.alloc | apply Keep.drewN | apply Keep.drew)) hk)
  have THB := hk.blk (show Blk _ _ _ _ from by repeat (with_reducible first | exact HB.out | apply Blk.alloc | apply Blk.drewN | apply Blk.drew)) (fun h => h)
  have THM := MemAt.same (by repeat (with_reducible first | exact HM.out | apply MemAt.alloc | apply MemAt.drew)) hk
  have THRF := RefAt.keep HRF.out hk (fun _ _ h => h)
  have THX := ClAt.keep (show ClAt _ _ _ _ _ _ _ _ from by repeat (with_reducible first | exact HX.out | apply ClAt.alloc | apply ClAt.drewN | apply ClAt.drew)) hk (fun h => h)
  have THY := hk.blk (show Blk _ _ _ _ from by repeat (with_reducible first | exact HY.out | apply Blk.alloc | apply Blk.drewN | apply Blk.drew)) (fun h => h)
  clear hk qHB HB HM HRF HX HY HK9
  have HB := hid THB
  clear THB
  have qHB := HB.out.k8
  have HM := hid THM
  clear THM
  have HRF := hid THRF
  clear THRF
  have HX := hid THX
  clear THX
  have HY := hid THY
  clear THY
  have hk9s : w9.heap.size ≤ w10.heap.size := hks9
  obtain ⟨kb, ko, hkb, hkc⟩ := hpk.at_
  have hp := play_r11 (B := w.heap.size) (w := w10) (m := rm) (y := y) (A := some ⟨wg, 0, none⟩) (ca := Wc) (lv := .slice none 0 0) (C := ⟨t, s, g, l, r, PA2, P.length, pc2, LA2, L.length, lc2⟩) (K := K) (s := S) (q := q) ⟨WW, [], 0, false, 0, 0, 0, 0⟩ (KK.map (fk11 K q)) QA kb ko qc mo HRF.out HY.out HCI2.out HCO2.out (by omega) rfl (by omega) (by rw [List.length_map]; omega) (fun h => by
    obtain ⟨e, hlt⟩ := hkb h
    have h2 := hqa kb ko e
    exact ⟨e, hlt, by omega, by omega, by simp [Value.ownBlock]⟩) hkc
  rw [List.length_map, show (CS.mk WW [] 0 false 0 0 0 0).W.length = WW.length from rfl, ← HPF.out] at hp
  simp only at hp
  clear hkb hkc hqa hpk hk9s hks9 HPF
  go_wp2_with fail
  rw [HMO.out]
  refine hp.mono ?_
  rintro e wz ⟨rfl, ⟨jj, A10, c10, lv10, hr10, hy10, _, _, hl10, hlg10, _, _⟩, hk10⟩
  have HKZ : Hid (Keep0 w wz) := hid (keep_far11 HK10.out hk10 (by
    rintro k ((rfl | rfl | h) | h)
    · exact hrmz
    · exact hzy
    · simp [Value.ownBlock] at h
    · exact Nat.le_trans HK10.out.size h))
  have THM := hid (mem_rplay HM.out HRF.out HY.out hk10)
  have THX := hid (cl_rplay HX.out HRF.out HY.out hk10)
  have hlw : pt.W.length = WW.length := hl10
  have hlog : pt.L.length ≤ 50 := by have h1 := hcp.log; have h2 := hcp.le; simp only at h1 h2; omega
  clear HM HX HRF HY HK10 hp hk10 hcp hl10 hlg10 HB qHB
  have HM := hid THM.out
  have HX := hid THX.out
  have HY := hid hy10
  have HRF := hid hr10
  clear THM THX hy10 hr10
  obtain ⟨rla, rlc, rfl, hla⟩ := refLog11 HRF.out
  obtain ⟨rg, rfl, hrg, _⟩ := ints_own HRF.out.words (by omega) rfl
  have HLA := hid hla
  have HRG := hid hrg
  obtain ⟨ae, an, hae⟩ : ∃ ae an : Int, clAns pt = .agg #[i64 ae, i64 an, .bool false, i64 0] := ⟨_, _, rfl⟩
  have HAE := hid hae
  have HLW := hid hlw
  have hlw3 : pt.W.length ≤ 10000 := by omega
  clear hla hrg hae hlw
  go_wp2_with fail
  apply wp_region_free (WI := WTe wz pt.L pt.W) (by kernel_rfl) (by kernel_rfl)
  case hob =>
    apply ObligF.fixed
    case h =>
      intro S gh w1 hwi hSi hd hcl
      apply StepOk.intro
      intro K hK
      go_simp
      apply hK
      · rfl
      · conv => (lhs; whnf)
      · exact hwi.fixed (by decide)
    simp only [put_lit, put_none]
    try dsimp only [List.set_cons_succ, List.set_cons_zero]
    apply ObligF.fixed
    case h =>
      intro S gh w1 hwi hSi hd hcl
      apply StepOk.intro
      intro K hK
      go_simp
      apply hK
      · rfl
      · conv => (lhs; whnf)
      · exact hwi.fixed (by decide)
    simp only [put_lit, put_none]
    try dsimp only [List.set_cons_succ, List.set_cons_zero]
    apply ObligF.fixed
    case h =>
      intro S gh w1 hwi hSi hd hcl
      apply StepOk.intro
      intro K hK
      go_simp
      apply hK
      · rfl
      · conv => (lhs; whnf)
      · exact hwi.fixed (by decide)
    simp only [put_lit, put_none]
    try dsimp only [List.set_cons_succ, List.set_cons_zero]
    apply ObligF.fixed
    case h =>
      intro S gh w1 hwi hSi hd hcl
      apply StepOk.intro
      intro K hK
      go_simp
      apply hK
      · rfl
      · conv => (lhs; whnf)
      · exact hwi.fixed (by decide)
    simp only [put_lit, put_none]
    try dsimp only [List.set_cons_succ, List.set_cons_zero]
    apply ObligF.fixed
    case h =>
      intro S gh w1 hwi hSi hd hcl
      apply StepOk.intro
      intro K hK
      go_simp
      apply hK
      · rfl
      · conv => (lhs; whnf)
      · exact hwi.fixed (by decide)
    simp only [put_lit, put_none]
    try dsimp only [List.set_cons_succ, List.set_cons_zero]
    apply ObligF.fixed
    case h =>
      intro S gh w1 hwi hSi hd hcl
      apply StepOk.intro
      intro K hK
      go_simp
      apply hK
      · rfl
      · conv => (lhs; whnf)
      · exact hwi.fixed (by decide)
    simp only [put_lit, put_none]
    try dsimp only [List.set_cons_succ, List.set_cons_zero]
    apply ObligF.fixed
    case h =>
      intro S gh w1 hwi hSi hd hcl
      apply StepOk.intro
      intro K hK
      go_simp
      apply hK
      · rfl
      · conv => (lhs; whnf)
      · exact hwi.fixed (by decide)
    simp only [put_lit, put_none]
    try dsimp only [List.set_cons_succ, List.set_cons_zero]
    apply ObligF.fixed
    case h =>
      intro S gh w1 hwi hSi hd hcl
      apply StepOk.intro
      intro K hK
      go_simp
      apply hK
      · rfl
      · conv => (lhs; whnf)
      · exact hwi.fixed (by decide)
    simp only [put_lit, put_none]
    try dsimp only [List.set_cons_succ, List.set_cons_zero]
    apply ObligF.fixed
    case h =>
      intro S gh w1 hwi hSi hd hcl
      apply StepOk.intro
      intro K hK
      go_simp
      apply hK
      · rfl
      · conv => (lhs; whnf)
      · exact hwi.fixed (by decide)
    simp only [put_lit, put_none]
    try dsimp only [List.set_cons_succ, List.set_cons_zero]
    apply ObligF.fixed
    case h =>
      intro S gh w1 hwi hSi hd hcl
      apply StepOk.intro
      intro K hK
      go_simp
      apply hK
      · rfl
      · conv => (lhs; whnf)
      · exact hwi.fixed (by decide)
    simp only [put_lit, put_none]
    try dsimp only [List.set_cons_succ, List.set_cons_zero]
    apply ObligF.fixed
    case h =>
      intro S gh w1 hwi hSi hd hcl
      apply StepOk.intro
      intro K hK
      go_simp
      apply hK
      · rfl
      · conv => (lhs; whnf)
      · exact hwi.fixed (by decide)
    simp only [put_lit, put_none]
    try dsimp only [List.set_cons_succ, List.set_cons_zero]
    apply ObligF.fixed
    case h =>
      intro S gh w1 hwi hSi hd hcl
      apply StepOk.intro
      intro K hK
      go_simp
      apply hK
      · rfl
      · conv => (lhs; whnf)
      · exact hwi.fixed (by decide)
    simp only [put_lit, put_none]
    try dsimp only [List.set_cons_succ, List.set_cons_zero]
    apply ObligF.fixed
    case h =>
      intro S gh w1 hwi hSi hd hcl
      apply StepOk.intro
      intro K hK
      go_simp
      apply hK
      · rfl
      · conv => (lhs; whnf)
      · exact hwi.fixed (by decide)
    simp only [put_lit, put_none]
    try dsimp only [List.set_cons_succ, List.set_cons_zero]
    apply ObligF.fixed
    case h =>
      intro S gh w1 hwi hSi hd hcl
      apply StepOk.intro
      intro K hK
      go_simp
      refine (show Calls Try.prog 17 _ w1 (Ret (.agg #[i64 ae, i64 an, .bool false, i64 0]) w1) from by have h := cl_Ans (HX.out.keep hwi.1 (fun h => h)); rw [HAE.out] at h; exact h).mono ?_
      rintro e w2 ⟨rfl, hk⟩
      apply hK
      · rfl
      · conv => (lhs; whnf)
      · exact (hwi.keep hk).fixed (by decide)
    simp only [put_lit, put_none]
    try dsimp only [List.set_cons_succ, List.set_cons_zero]
    apply ObligF.fixed
    case h =>
      intro S gh w1 hwi hSi hd hcl
      apply StepOk.intro
      intro K hK
      go_simp
      apply hK
      · rfl
      · conv => (lhs; whnf)
      · exact hwi.fixed (by decide)
    simp only [put_lit, put_none]
    try dsimp only [List.set_cons_succ, List.set_cons_zero]
    apply ObligF.fixed
    case h =>
      intro S gh w1 hwi hSi hd hcl
      apply StepOk.intro
      intro K hK
      go_simp
      refine (show Calls Try.prog 27 _ w1 (Ret (.agg #[i64 ae, i64 an, .bool false, i64 0]) w1) from by have h := r11_Ans _ (hwi.1.blk HY.out (fun h => h)); rw [HAE.out] at h; exact h).mono ?_
      rintro e w2 ⟨rfl, hk⟩
      apply hK
      · rfl
      · conv => (lhs; whnf)
      · exact (hwi.keep hk).fixed (by decide)
    simp only [put_lit, put_none]
    try dsimp only [List.set_cons_succ, List.set_cons_zero]
    apply ObligF.fixed
    case h =>
      intro S gh w1 hwi hSi hd hcl
      apply StepOk.intro
      intro K hK
      go_simp
      apply hK
      · rfl
      · conv => (lhs; whnf)
      · exact hwi.fixed (by decide)
    simp only [put_lit, put_none]
    try dsimp only [List.set_cons_succ, List.set_cons_zero]
    apply ObligF.fixed
    case h =>
      intro S gh w1 hwi hSi hd hcl
      apply StepOk.intro
      intro K hK
      go_simp
      apply hK
      · rfl
      · conv => (lhs; whnf)
      · exact hwi.fixed (by decide)
    simp only [put_lit, put_none]
    try dsimp only [List.set_cons_succ, List.set_cons_zero]
    apply ObligF.fixed
    case h =>
      intro S gh w1 hwi hSi hd hcl
      apply StepOk.intro
      intro K hK
      go_simp
      apply hK
      · rfl
      · conv => (lhs; whnf)
      · exact hwi.fixed (by decide)
    simp only [put_lit, put_none]
    try dsimp only [List.set_cons_succ, List.set_cons_zero]
    apply ObligF.fixed
    case h =>
      intro S gh w1 hwi hSi hd hcl
      apply StepOk.intro
      intro K hK
      go_simp
      apply hK
      · rfl
      · conv => (lhs; whnf)
      · exact hwi.fixed (by decide)
    simp only [put_lit, put_none]
    try dsimp only [List.set_cons_succ, List.set_cons_zero]
    apply ObligF.fixed
    case h =>
      intro S gh w1 hwi hSi hd hcl
      apply StepOk.intro
      intro K hK
      go_simp
      refine (cl_Word (HX.out.keep hwi.1 (fun h => h))).mono ?_
      rintro e w2 ⟨rfl, hk⟩
      apply hK
      · rfl
      · conv => (lhs; whnf)
      · exact (hwi.keep hk).fixed (by decide)
    simp only [put_lit, put_none]
    try dsimp only [List.set_cons_succ, List.set_cons_zero]
    apply ObligF.fixed
    case h =>
      intro S gh w1 hwi hSi hd hcl
      apply StepOk.intro
      intro K hK
      go_simp
      apply hK
      · rfl
      · conv => (lhs; whnf)
      · exact hwi.fixed (by decide)
    simp only [put_lit, put_none]
    try dsimp only [List.set_cons_succ, List.set_cons_zero]
    apply ObligF.fixed
    case h =>
      intro S gh w1 hwi hSi hd hcl
      apply StepOk.intro
      intro K hK
      go_simp
      refine (r11_Word _ (hwi.1.blk HY.out (fun h => h))).mono ?_
      rintro e w2 ⟨rfl, hk⟩
      apply hK
      · rfl
      · conv => (lhs; whnf)
      · exact (hwi.keep hk).fixed (by decide)
    simp only [put_lit, put_none]
    try dsimp only [List.set_cons_succ, List.set_cons_zero]
    apply ObligF.fixed
    case h =>
      intro S gh w1 hwi hSi hd hcl
      apply StepOk.intro
      intro K hK
      go_simp
      apply hK
      · rfl
      · conv => (lhs; whnf)
      · exact hwi.fixed (by decide)
    simp only [put_lit, put_none]
    try dsimp only [List.set_cons_succ, List.set_cons_zero]
    apply ObligF.fixed
    case h =>
      intro S gh w1 hwi hSi hd hcl
      apply StepOk.intro
      intro K hK
      go_simp
      apply hK
      · rfl
      · conv => (lhs; whnf)
      · exact hwi.fixed (by decide)
    simp only [put_lit, put_none]
    try dsimp only [List.set_cons_succ, List.set_cons_zero]
    apply ObligF.fixed
    case h =>
      intro S gh w1 hwi hSi hd hcl
      apply StepOk.intro
      intro K hK
      go_simp
      apply hK
      · rfl
      · conv => (lhs; whnf)
      · exact hwi.fixed (by decide)
    simp only [put_lit, put_none]
    try dsimp only [List.set_cons_succ, List.set_cons_zero]
    apply ObligF.fixed
    case h =>
      intro S gh w1 hwi hSi hd hcl
      apply StepOk.intro
      intro K hK
      go_simp
      apply hK
      · rfl
      · conv => (lhs; whnf)
      · exact hwi.fixed (by decide)
    simp only [put_lit, put_none]
    try dsimp only [List.set_cons_succ, List.set_cons_zero]
    apply ObligF.free
    case h =>
      intro S gh w1 hwi hSi hd hcl
      apply StepG.intro
      intro K hK
      go_simp
      refine (mem_Log (HM.out.same hwi.1) (by omega)).mono ?_
      rintro e w2 ⟨A2, c2, rfl, ha, hk⟩
      apply hK
      · rfl
      · exact hwi.log hk ha
    simp only [put_lit, put_none]
    try dsimp only [List.set_cons_succ, List.set_cons_zero]
    apply ObligF.fixed
    case h =>
      intro S gh w1 hwi hSi hd hcl
      apply StepOk.intro
      intro K hK
      go_simp
      apply hK
      · rfl
      · conv => (lhs; whnf)
      · exact hwi.fixed (by decide)
    simp only [put_lit, put_none]
    try dsimp only [List.set_cons_succ, List.set_cons_zero]
    apply ObligF.fixed
    case h =>
      intro S gh w1 hwi hSi hd hcl
      apply StepOk.intro
      intro K hK
      go_simp
      apply hK
      · rfl
      · conv => (lhs; whnf)
      · exact hwi.fixed (by decide)
    simp only [put_lit, put_none]
    try dsimp only [List.set_cons_succ, List.set_cons_zero]
    apply ObligF.fixed
    case h =>
      intro S gh w1 hwi hSi hd hcl
      apply StepOk.intro
      intro K hK
      go_simp
      apply hK
      · rfl
      · conv => (lhs; whnf)
      · exact hwi.fixed (by decide)
    simp only [put_lit, put_none]
    try dsimp only [List.set_cons_succ, List.set_cons_zero]
    apply ObligF.fixed
    case h =>
      intro S gh w1 hwi hSi hd hcl
      apply StepOk.intro
      intro K hK
      have qm := (hwi.1.blk HRF.out.mem (fun h => h)).k2
      go_simp
      apply hK
      · rfl
      · conv => (lhs; whnf)
      · exact hwi.fixed (by decide)
    simp only [put_lit, put_none]
    try dsimp only [List.set_cons_succ, List.set_cons_zero]
    apply ObligF.fixed
    case h =>
      intro S gh w1 hwi hSi hd hcl
      apply StepOk.intro
      intro K hK
      obtain ⟨A1, c1, e1, ha1⟩ := hwi.2.1 (hd ⟨27, .data⟩ (by simp) rfl)
      rw [e1]
      go_simp
      refine (same_log A1 rla pt.L c1 rlc _ ha1 (HLA.out.keep hwi.1) (by omega)).mono ?_
      rintro e w2 ⟨rfl, hk⟩
      apply hK
      · rfl
      · conv => (lhs; whnf)
      · exact (hwi.keep hk).fixed (by decide)
    simp only [put_lit, put_none]
    try dsimp only [List.set_cons_succ, List.set_cons_zero]
    apply ObligF.fixed
    case h =>
      intro S gh w1 hwi hSi hd hcl
      apply StepOk.intro
      intro K hK
      go_simp
      apply hK
      · rfl
      · conv => (lhs; whnf)
      · exact hwi.fixed (by decide)
    simp only [put_lit, put_none]
    try dsimp only [List.set_cons_succ, List.set_cons_zero]
    apply ObligF.fixed
    case h =>
      intro S gh w1 hwi hSi hd hcl
      apply StepOk.intro
      intro K hK
      go_simp
      apply hK
      · rfl
      · conv => (lhs; whnf)
      · exact hwi.fixed (by decide)
    simp only [put_lit, put_none]
    try dsimp only [List.set_cons_succ, List.set_cons_zero]
    apply ObligF.fixed
    case h =>
      intro S gh w1 hwi hSi hd hcl
      apply StepOk.intro
      intro K hK
      go_simp
      apply hK
      · rfl
      · conv => (lhs; whnf)
      · exact hwi.fixed (by decide)
    simp only [put_lit, put_none]
    try dsimp only [List.set_cons_succ, List.set_cons_zero]
    apply ObligF.free
    case h =>
      intro S gh w1 hwi hSi hd hcl
      apply StepG.intro
      intro K hK
      go_simp
      refine (mem_Words (HM.out.same hwi.1) (by omega)).mono ?_
      rintro e w2 ⟨g2, c2, rfl, hi, hk, _⟩
      apply hK
      · rfl
      · exact hwi.words hk hi.at_
    simp only [put_lit, put_none]
    try dsimp only [List.set_cons_succ, List.set_cons_zero]
    apply ObligF.fixed
    case h =>
      intro S gh w1 hwi hSi hd hcl
      apply StepOk.intro
      intro K hK
      go_simp
      apply hK
      · rfl
      · conv => (lhs; whnf)
      · exact hwi.fixed (by decide)
    simp only [put_lit, put_none]
    try dsimp only [List.set_cons_succ, List.set_cons_zero]
    apply ObligF.fixed
    case h =>
      intro S gh w1 hwi hSi hd hcl
      apply StepOk.intro
      intro K hK
      go_simp
      apply hK
      · rfl
      · conv => (lhs; whnf)
      · exact hwi.fixed (by decide)
    simp only [put_lit, put_none]
    try dsimp only [List.set_cons_succ, List.set_cons_zero]
    apply ObligF.fixed
    case h =>
      intro S gh w1 hwi hSi hd hcl
      apply StepOk.intro
      intro K hK
      go_simp
      apply hK
      · rfl
      · conv => (lhs; whnf)
      · exact hwi.fixed (by decide)
    simp only [put_lit, put_none]
    try dsimp only [List.set_cons_succ, List.set_cons_zero]
    apply ObligF.fixed
    case h =>
      intro S gh w1 hwi hSi hd hcl
      apply StepOk.intro
      intro K hK
      have qm := (hwi.1.blk HRF.out.mem (fun h => h)).k2
      go_simp
      apply hK
      · rfl
      · conv => (lhs; whnf)
      · exact hwi.fixed (by decide)
    simp only [put_lit, put_none]
    try dsimp only [List.set_cons_succ, List.set_cons_zero]
    apply ObligF.fixed
    case h =>
      intro S gh w1 hwi hSi hd hcl
      apply StepOk.intro
      intro K hK
      obtain ⟨A1, c1, e1, ha1⟩ := hwi.2.2 (hd ⟨36, .data⟩ (by simp) rfl)
      rw [e1]
      go_simp
      have hsi := same_ints A1 _ pt.W c1 c10 _ ha1 ((hwi.1.ints HRG.out (fun h => h)).at_) (by omega)
      rw [HLW.out] at hsi
      refine hsi.mono ?_
      rintro e w2 ⟨rfl, hk⟩
      apply hK
      · rfl
      · conv => (lhs; whnf)
      · exact (hwi.keep hk).fixed (by decide)
    simp only [put_lit, put_none]
    try dsimp only [List.set_cons_succ, List.set_cons_zero]
    apply ObligF.fixed
    case h =>
      intro S gh w1 hwi hSi hd hcl
      apply StepOk.intro
      intro K hK
      go_simp
      apply hK
      · rfl
      · conv => (lhs; whnf)
      · exact hwi.fixed (by decide)
    simp only [put_lit, put_none]
    try dsimp only [List.set_cons_succ, List.set_cons_zero]
    apply ObligF.fixed
    case h =>
      intro S gh w1 hwi hSi hd hcl
      apply StepOk.intro
      intro K hK
      go_simp
      apply hK
      · rfl
      · conv => (lhs; whnf)
      · exact hwi.fixed (by decide)
    simp only [put_lit, put_none]
    try dsimp only [List.set_cons_succ, List.set_cons_zero]
    exact ObligF.nil
  case h0 =>
    exact ⟨(Keep.refl _ _).drew, (fun h => by cases h), (fun h => by cases h)⟩
  case hend =>
    intro S gh wx hwi hall
    have HKX := hid hwi.1
    clear hwi hall
    go_wp2_with fail
    go_ret
    exact ⟨rfl, HKZ.out.trans HKX.out (fun _ _ h => h)⟩
end Go.Proofs.Ytjloccnbcgkmgaa
