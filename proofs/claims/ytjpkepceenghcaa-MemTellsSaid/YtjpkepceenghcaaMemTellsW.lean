/- MemTells: what any accesses tell, all words behind each, and the log, are the document's. -/
import Derived.Test.YtjpkepceenghcaaOpsRow
import Derived.Test.YtjpkepceenghcaaGhost
namespace Go.Proofs.Ytjpkepceenghcaa
open Go.RowKit
set_option linter.unusedVariables false
set_option linter.unusedSimpArgs false

theorem RefAt.lt {B : Nat} {w : World} {m : Nat} {A : Option Addr} {c : Nat} {lv : Value} {W : List Int} {L : List Acc} (h : RefAt B w m A c lv W L) (k : Nat) (hk : RF m A lv k) : k < w.heap.size := by
  rcases hk with rfl | hk | hk
  · exact h.mem.lt
  · exact (h.words.lt k ((own_any _ _ _ _ _).trans hk)).2
  · exact (h.log.lt k hk).2
theorem RefAt.ge {B : Nat} {w : World} {m : Nat} {A : Option Addr} {c : Nat} {lv : Value} {W : List Int} {L : List Acc} (h : RefAt B w m A c lv W L) (k : Nat) (hk : RF m A lv k) : B ≤ k := by
  rcases hk with rfl | hk | hk
  · exact h.bm
  · exact (h.words.lt k ((own_any _ _ _ _ _).trans hk)).1
  · exact (h.log.lt k hk).1
theorem refInts {B : Nat} {w : World} {m : Nat} {A : Option Addr} {c : Nat} {lv : Value} {W : List Int} {L : List Acc} (h : RefAt B w m A c lv W L) : ∃ A', A' = A ∧ IntsAt w A' W := by
  refine ⟨A, rfl, ?_⟩
  by_cases h0 : W.length = 0
  · exact Or.inl (List.eq_nil_of_length_eq_zero h0)
  · obtain ⟨g, rfl, hg, _⟩ := ints_own h.words (by omega) rfl
    exact hg.at_
theorem refLog {B : Nat} {w : World} {m : Nat} {A : Option Addr} {c : Nat} {lv : Value} {W : List Int} {L : List Acc} (h : RefAt B w m A c lv W L) : ∃ LA LC, lv = .slice LA L.length LC ∧ AccsAt w LA L := by
  have hl := h.log
  rcases hl.2 with ⟨e, h0⟩ | ⟨g, cap, cur, e, _, _, _⟩
  · exact ⟨none, 0, by rw [e, h0], Or.inl (List.eq_nil_of_length_eq_zero h0)⟩
  · exact ⟨some ⟨g, 0, none⟩, cap, e, accs_of_row (e ▸ hl) rfl⟩
def tellD (W : List Int) : Nat → Value → World → Prop
  | 10 => PInts W
  | _ => fun _ _ => True
theorem tellD_stable {W : List Int} : Stable (tellD W) := by
  intro i v w w' h hk
  unfold tellD at *
  split at h <;> first | exact h.keep hk | trivial
def PAccs (L : List Acc) (v : Value) (w : World) : Prop := ∃ A c, v = .slice A L.length c ∧ AccsAt w A L
theorem PAccs.keep {L : List Acc} {v : Value} {w w' : World} (h : PAccs L v w) (hk : Keep0 w w') : PAccs L v w' := by
  obtain ⟨A, c, e, h⟩ := h
  exact ⟨A, c, e, h.keep hk⟩
def tellL (L : List Acc) : Nat → Value → World → Prop
  | 3 => PAccs L
  | _ => fun _ _ => True
theorem tellL_stable {L : List Acc} : Stable (tellL L) := by
  intro i v w w' h hk
  unfold tellL at *
  split at h <;> first | exact h.keep hk | trivial

set_option maxHeartbeats 4000000 in
set_option maxRecDepth 100000 in
theorem memTells_walk {w : World} (n : Int) (hn : (Lit.int .u8 n).wf = true) {v : Value} (hc : ∃ l, opsIn w v l) : Calls Try.prog 9 #[.int .u8 n, v] w (Ret (.bool true) w) := by
  obtain ⟨l, A, c, rfl, hl63, hl⟩ := hc
  have hn := bounds_u8 hn
  have HL := hid hl
  clear hl
  go_enter Try.func9, Try.ntmps9
  go_wp2_with fail
  refine (law3_head _).mono ?_
  rintro e w1 ⟨rfl, hk⟩
  have HK1 : Hid (Keep0 w w1) := hid (Keep0.step (by repeat (with_reducible first | exact Keep.refl _ _ | apply Keep.alloc | apply Keep.drewN | apply Keep.drew)) hk)
  clear hk
  by_cases h100 : 100 < l.length
  · go_wp2
    go_ret
    exact ⟨rfl, HK1.out⟩
  · have hl100 : l.length ≤ 100 := by omega
    have hk0 : 0 ≤ n % 20 := Int.emod_nonneg _ (by omega)
    have hk1 : n % 20 < 20 := Int.emod_lt_of_pos _ (by omega)
    go_wp2_with fail
    generalize n % 20 = kk at *
    obtain ⟨K, rfl⟩ := Int.eq_ofNat_of_zero_le hk0
    have hK : K < 20 := by omega
    refine (mem_New w.heap.size K _ HK1.out.size (by omega) (by omega)).mono ?_
    rintro e w2 ⟨m, a, lv2, rfl, hm, hk, hzm, hza⟩
    rw [Int.toNat_natCast] at hm
    have HM2 := hid hm
    have HK2 : Hid (Keep0 w w2) := hid (Keep0.step HK1.out hk)
    have hzm' := Nat.le_trans HK1.out.size hzm
    have hza' := Nat.le_trans HK1.out.size hza
    have HLL := hid (show ∀ (w' : World) lv (W : List Int) L, MemAt w.heap.size w' m a lv W L → ∀ k, MF m a lv k → w.heap.size ≤ k from by
      rintro w' lv W L h k (rfl | rfl | h2)
      · exact hzm'
      · exact hza'
      · exact (h.log.lt k h2).1)
    clear hm hk HK1
    go_wp2_with fail
    refine (ref_New w.heap.size K _ (Nat.le_trans HK2.out.size (Nat.le_refl _)) (by omega) (by omega)).mono ?_
    rintro e w3 ⟨b, A3, c3, rfl, hr, hk, hr3⟩
    rw [Int.toNat_natCast] at hr
    have HR3 := hid hr
    have HM3 := hid (HM2.out.same hk)
    have HK3 : Hid (Keep0 w w3) := hid (Keep0.step HK2.out hk)
    have hD3 : ∀ k, MF m a lv2 k → ¬ RF b A3 (.slice none 0 0) k := fun k h1 h2 => by have := hr3 k h2; have := MemAt.lt HM2.out k h1; omega
    clear hr hk hr3 HM2 HK2
    go_wp2_with fail
    go_loopw [9] (fun v wr => ∃ i : Nat, i ≤ l.length ∧ v = .int .i64 i ∧ ∃ lv W L Ar cr lr, W.length = K ∧ L.length ≤ i ∧ MemAt w.heap.size wr m a lv W L ∧ RefAt w.heap.size wr b Ar cr lr W L ∧ (∀ k, MF m a lv k → ¬ RF b Ar lr k) ∧ Keep0 w wr) (fun v _ => l.length - (intOf v).toNat)
    case atStart => exact ⟨0, Nat.zero_le _, rfl, lv2, _, [], A3, c3, _, by simp, by simp, HM3.out, HR3.out, hD3, HK3.out⟩
    case round =>
      obtain ⟨i, hi, rfl, lv, W, L, Ar, cr, lr, hW, hL, hm, hr, hD, hk⟩ := hrel
      clear HM3 HK3 HR3 hD3
      have HM := hid hm
      have HR := hid hr
      have HK := hid hk
      have HW := hid hW
      clear hm hr hk hW
      by_cases hlt : i < l.length
      · have hrow := (HL.out.keep HK.out).cell (by omega)
        obtain ⟨sb, so, rfl, hrow⟩ := hrow
        have q := hrow i hlt
        have HO := hid (fun w' (hk : Keep0 w w') => by
          have h := (HL.out.keep hk).cell (by omega)
          obtain ⟨b', o', e', h⟩ := h
          cases e'
          exact h i hlt)
        clear hrow
        obtain ⟨ok, ow, oa, ob, ho⟩ : ∃ ok ow oa ob, l[i] = MOp.mk ok ow oa ob := ⟨_, _, _, _, rfl⟩
        rw [ho] at q HO
        simp only at q HO
        clear ho
        go_wp2_with fail
        refine (law_right ⟨ok, ow, oa, ob⟩ K _).mono ?_
        rintro e w3 ⟨rfl, hk⟩
        have HM3 := hid (HM.out.same hk)
        have HR3 := hid (HR.out.keep hk (fun _ _ h => h))
        have HK3 : Hid (Keep0 w w3) := hid (Keep0.step HK.out hk)
        have q3 := HO.out _ HK3.out
        clear hk HM HK HR q
        cases hr : MOp.ok ⟨ok, ow, oa, ob⟩ K
        · go_wp2_with fail
          go_roundw
          case rel => exact ⟨i + 1, by omega, by go_num, lv, W, L, Ar, cr, lr, HW.out, by omega, HM3.out, HR3.out, hD, HK3.out⟩
          case measure => simp [intOf]; omega
        · go_wp2_with fail
          refine (law_done ⟨ok, ow, oa, ob⟩ K HM3.out (by rw [HW.out]) hr (by omega)).mono ?_
          rintro e w4 ⟨rfl, lv4, hm, hk, hl⟩
          have HK4 : Hid (Keep0 w w4) := hid (keep_far HK3.out hk (HLL.out _ _ _ _ HM3.out))
          have HR4 := hid (HR3.out.keep hk (fun k h1 h2 => hD k h2 h1))
          have hD4 : ∀ k, MF m a lv4 k → ¬ RF b Ar lr k := fun k h1 h2 => by
            rcases h1 with h | h | h
            · exact hD k (Or.inl h) h2
            · exact hD k (Or.inr (Or.inl h)) h2
            · rcases hl k h with h | h
              · exact hD k (Or.inr (Or.inr h)) h2
              · have := RefAt.lt HR3.out k h2; omega
          have HM4 := hid hm
          have q4 := HO.out _ HK4.out
          clear hm hk hl q3 HM3 HR3 HK3
          go_wp2_with fail
          refine (law_want ⟨ok, ow, oa, ob⟩ K HR4.out (by rw [HW.out]) hr (by rw [HW.out]; omega) (by omega)).mono ?_
          rintro e w5 ⟨rfl, A5, c5, lr5, hr5, hk, ha, hl⟩
          have hsub : ∀ k, (k = b ∨ lr.ownBlock = some k) → RF b Ar lr k := fun k h => by
            rcases h with h | h
            · exact Or.inl h
            · exact Or.inr (Or.inr h)
          have HK5 : Hid (Keep0 w w5) := hid (keep_far HK4.out hk (fun k h => RefAt.ge HR4.out k (hsub k h)))
          have HM5 := hid (HM4.out.keep hk (fun k h1 h2 => hD4 k h1 (hsub k h2)))
          have hD5 : ∀ k, MF m a lv4 k → ¬ RF b A5 lr5 k := fun k h1 h2 => by
            have hlt := MemAt.lt HM4.out k h1
            rcases h2 with h | h | h
            · exact hD4 k h1 (Or.inl h)
            · rcases ha k h with h | h
              · exact hD4 k h1 (Or.inr (Or.inl h))
              · omega
            · rcases hl k h with h | h
              · exact hD4 k h1 (Or.inr (Or.inr h))
              · omega
          have HR5 := hid hr5
          have hW5 : (opW ⟨ok, ow, oa, ob⟩ W).length = K := by rw [opW_length, HW.out]
          have hL5 : (L ++ opL ⟨ok, ow, oa, ob⟩ W).length ≤ i + 1 := by have := opL_length ⟨ok, ow, oa, ob⟩ W; simp; omega
          have HW5 := hid hW5
          have lv5 := lv4
          clear hr5 hk ha hl q4 HM4 HR4 HK4 hW5 hsub hD4 lv5
          generalize opW ⟨ok, ow, oa, ob⟩ W = W5 at *
          generalize L ++ opL ⟨ok, ow, oa, ob⟩ W = L5 at *
          generalize opP ⟨ok, ow, oa, ob⟩ W = pp at *
          generalize opX ⟨ok, ow, oa, ob⟩ W = xx at *
          go_wp2_with fail
          apply wp_region_free (WI := fun S gh wx => Keep0 w5 wx ∧ GWI (tellD W5) S gh wx) (by kernel_rfl) (by kernel_rfl)
          case hob =>
            apply ObligF.fixed
            case h =>
              intro S gh w1 hwi hSi hd hcl
              apply StepOk.intro
              intro K hK
              have qr := (HR5.out.keep hwi.1 (fun _ _ h => h)).mem.k2
              go_simp
              apply hK
              · rfl
              · conv => (lhs; whnf)
              · exact ⟨hwi.1, GWI.fixed hwi.2 trivial⟩
            simp only [put_lit, put_none, List.set_cons_succ, List.set_cons_zero]
            apply ObligF.fixed
            case h =>
              intro S gh w1 hwi hSi hd hcl
              apply StepOk.intro
              intro K hK
              have qr := (HR5.out.keep hwi.1 (fun _ _ h => h)).mem.k2
              go_simp
              apply hK
              · rfl
              · conv => (lhs; whnf)
              · exact ⟨hwi.1, GWI.fixed hwi.2 trivial⟩
            simp only [put_lit, put_none, List.set_cons_succ, List.set_cons_zero]
            apply ObligF.fixed
            case h =>
              intro S gh w1 hwi hSi hd hcl
              apply StepOk.intro
              intro K hK
              have qr := (HR5.out.keep hwi.1 (fun _ _ h => h)).mem.k2
              go_simp
              apply hK
              · rfl
              · conv => (lhs; whnf)
              · exact ⟨hwi.1, GWI.fixed hwi.2 trivial⟩
            simp only [put_lit, put_none, List.set_cons_succ, List.set_cons_zero]
            apply ObligF.fixed
            case h =>
              intro S gh w1 hwi hSi hd hcl
              apply StepOk.intro
              intro K hK
              have qr := (HR5.out.keep hwi.1 (fun _ _ h => h)).mem.k2
              go_simp
              apply hK
              · rfl
              · conv => (lhs; whnf)
              · exact ⟨hwi.1, GWI.fixed hwi.2 trivial⟩
            simp only [put_lit, put_none, List.set_cons_succ, List.set_cons_zero]
            apply ObligF.fixed
            case h =>
              intro S gh w1 hwi hSi hd hcl
              apply StepOk.intro
              intro K hK
              have qr := (HR5.out.keep hwi.1 (fun _ _ h => h)).mem.k2
              go_simp
              apply hK
              · rfl
              · conv => (lhs; whnf)
              · exact ⟨hwi.1, GWI.fixed hwi.2 trivial⟩
            simp only [put_lit, put_none, List.set_cons_succ, List.set_cons_zero]
            apply ObligF.fixed
            case h =>
              intro S gh w1 hwi hSi hd hcl
              apply StepOk.intro
              intro K hK
              have qr := (HR5.out.keep hwi.1 (fun _ _ h => h)).mem.k2
              go_simp
              apply hK
              · rfl
              · conv => (lhs; whnf)
              · exact ⟨hwi.1, GWI.fixed hwi.2 trivial⟩
            simp only [put_lit, put_none, List.set_cons_succ, List.set_cons_zero]
            apply ObligF.fixed
            case h =>
              intro S gh w1 hwi hSi hd hcl
              apply StepOk.intro
              intro K hK
              have qr := (HR5.out.keep hwi.1 (fun _ _ h => h)).mem.k2
              go_simp
              apply hK
              · rfl
              · conv => (lhs; whnf)
              · exact ⟨hwi.1, GWI.fixed hwi.2 trivial⟩
            simp only [put_lit, put_none, List.set_cons_succ, List.set_cons_zero]
            apply ObligF.fixed
            case h =>
              intro S gh w1 hwi hSi hd hcl
              apply StepOk.intro
              intro K hK
              have qr := (HR5.out.keep hwi.1 (fun _ _ h => h)).mem.k2
              go_simp
              apply hK
              · rfl
              · conv => (lhs; whnf)
              · exact ⟨hwi.1, GWI.fixed hwi.2 trivial⟩
            simp only [put_lit, put_none, List.set_cons_succ, List.set_cons_zero]
            apply ObligF.fixed
            case h =>
              intro S gh w1 hwi hSi hd hcl
              apply StepOk.intro
              intro K hK
              have qr := (HR5.out.keep hwi.1 (fun _ _ h => h)).mem.k2
              go_simp
              apply hK
              · rfl
              · conv => (lhs; whnf)
              · exact ⟨hwi.1, GWI.fixed hwi.2 trivial⟩
            simp only [put_lit, put_none, List.set_cons_succ, List.set_cons_zero]
            apply ObligF.fixed
            case h =>
              intro S gh w1 hwi hSi hd hcl
              apply StepOk.intro
              intro K hK
              have qr := (HR5.out.keep hwi.1 (fun _ _ h => h)).mem.k2
              go_simp
              apply hK
              · rfl
              · conv => (lhs; whnf)
              · exact ⟨hwi.1, GWI.fixed hwi.2 trivial⟩
            simp only [put_lit, put_none, List.set_cons_succ, List.set_cons_zero]
            apply ObligF.free
            case h =>
              intro S gh w1 hwi hSi hd hcl
              apply StepG.intro
              intro K hK
              go_simp
              refine (mem_Words (HM5.out.same hwi.1) (by rw [HW5.out]; omega)).mono ?_
              rintro e w2 ⟨g2, c2, rfl, hi, hk, _⟩
              apply hK
              · rfl
              · exact ⟨Keep0.step hwi.1 hk, GWI.free (hwi.2.keep tellD_stable hk) ⟨_, c2, rfl, hi.at_⟩⟩
            simp only [put_lit, put_none, List.set_cons_succ, List.set_cons_zero]
            apply ObligF.fixed
            case h =>
              intro S gh w1 hwi hSi hd hcl
              apply StepOk.intro
              intro K hK
              have qr := (HR5.out.keep hwi.1 (fun _ _ h => h)).mem.k2
              go_simp
              apply hK
              · rfl
              · conv => (lhs; whnf)
              · exact ⟨hwi.1, GWI.fixed hwi.2 trivial⟩
            simp only [put_lit, put_none, List.set_cons_succ, List.set_cons_zero]
            apply ObligF.fixed
            case h =>
              intro S gh w1 hwi hSi hd hcl
              apply StepOk.intro
              intro K hK
              have qr := (HR5.out.keep hwi.1 (fun _ _ h => h)).mem.k2
              go_simp
              apply hK
              · rfl
              · conv => (lhs; whnf)
              · exact ⟨hwi.1, GWI.fixed hwi.2 trivial⟩
            simp only [put_lit, put_none, List.set_cons_succ, List.set_cons_zero]
            apply ObligF.fixed
            case h =>
              intro S gh w1 hwi hSi hd hcl
              apply StepOk.intro
              intro K hK
              have qr := (HR5.out.keep hwi.1 (fun _ _ h => h)).mem.k2
              go_simp
              apply hK
              · rfl
              · conv => (lhs; whnf)
              · exact ⟨hwi.1, GWI.fixed hwi.2 trivial⟩
            simp only [put_lit, put_none, List.set_cons_succ, List.set_cons_zero]
            apply ObligF.fixed
            case h =>
              intro S gh w1 hwi hSi hd hcl
              apply StepOk.intro
              intro K hK
              have qr := (HR5.out.keep hwi.1 (fun _ _ h => h)).mem.k2
              go_simp
              apply hK
              · rfl
              · conv => (lhs; whnf)
              · exact ⟨hwi.1, GWI.fixed hwi.2 trivial⟩
            simp only [put_lit, put_none, List.set_cons_succ, List.set_cons_zero]
            apply ObligF.fixed
            case h =>
              intro S gh w1 hwi hSi hd hcl
              apply StepOk.intro
              intro K hK
              obtain ⟨A1, c1, e1, hi1⟩ := hwi.2 10 (hd ⟨10, .data⟩ (by simp) rfl)
              rw [e1]
              go_simp
              obtain ⟨A2, e2, hi2⟩ := refInts (HR5.out.keep hwi.1 (fun _ _ h => h))
              subst e2
              refine (same_ints A1 _ _ c1 _ _ hi1 hi2 (by rw [HW5.out]; omega)).mono ?_
              rintro e w2 ⟨rfl, hk⟩
              apply hK
              · rfl
              · conv => (lhs; whnf)
              · exact ⟨Keep0.step hwi.1 hk, GWI.fixed (hwi.2.keep tellD_stable hk) trivial⟩
            simp only [put_lit, put_none, List.set_cons_succ, List.set_cons_zero]
            apply ObligF.fixed
            case h =>
              intro S gh w1 hwi hSi hd hcl
              apply StepOk.intro
              intro K hK
              have qr := (HR5.out.keep hwi.1 (fun _ _ h => h)).mem.k2
              go_simp
              apply hK
              · rfl
              · conv => (lhs; whnf)
              · exact ⟨hwi.1, GWI.fixed hwi.2 trivial⟩
            simp only [put_lit, put_none, List.set_cons_succ, List.set_cons_zero]
            apply ObligF.fixed
            case h =>
              intro S gh w1 hwi hSi hd hcl
              apply StepOk.intro
              intro K hK
              have qr := (HR5.out.keep hwi.1 (fun _ _ h => h)).mem.k2
              go_simp
              apply hK
              · rfl
              · conv => (lhs; whnf)
              · exact ⟨hwi.1, GWI.fixed hwi.2 trivial⟩
            simp only [put_lit, put_none, List.set_cons_succ, List.set_cons_zero]
            exact ObligF.nil
          case h0 =>
            exact ⟨(Keep.refl _ _).drew, GWI.start _ _ _⟩
          case hend =>
            intro S gh wx hwi hall
            have HKX := hid hwi.1
            go_wp2_with fail
            go_roundw
            case rel => exact ⟨i + 1, by omega, by go_num, lv4, W5, _, A5, c5, lr5, HW5.out, hL5, HM5.out.same HKX.out, HR5.out.keep HKX.out (fun _ _ h => h), hD5, Keep0.step HK5.out HKX.out⟩
            case measure => simp [intOf]; omega
      · obtain ⟨LA, LC, hlr, hla⟩ := refLog HR.out
        subst hlr
        have HLA := hid hla
        clear hla
        go_wp2_with fail
        apply wp_region_free (WI := fun S gh wx => Keep0 wr wx ∧ GWI (tellL L) S gh wx) (by kernel_rfl) (by kernel_rfl)
        case hob =>
          apply ObligF.fixed
          case h =>
            intro S gh w1 hwi hSi hd hcl
            apply StepOk.intro
            intro K hK
            have qr := (HR.out.keep hwi.1 (fun _ _ h => h)).mem.k2
            go_simp
            apply hK
            · rfl
            · conv => (lhs; whnf)
            · exact ⟨hwi.1, GWI.fixed hwi.2 trivial⟩
          simp only [put_lit, put_none, List.set_cons_succ, List.set_cons_zero]
          apply ObligF.fixed
          case h =>
            intro S gh w1 hwi hSi hd hcl
            apply StepOk.intro
            intro K hK
            have qr := (HR.out.keep hwi.1 (fun _ _ h => h)).mem.k2
            go_simp
            apply hK
            · rfl
            · conv => (lhs; whnf)
            · exact ⟨hwi.1, GWI.fixed hwi.2 trivial⟩
          simp only [put_lit, put_none, List.set_cons_succ, List.set_cons_zero]
          apply ObligF.fixed
          case h =>
            intro S gh w1 hwi hSi hd hcl
            apply StepOk.intro
            intro K hK
            have qr := (HR.out.keep hwi.1 (fun _ _ h => h)).mem.k2
            go_simp
            apply hK
            · rfl
            · conv => (lhs; whnf)
            · exact ⟨hwi.1, GWI.fixed hwi.2 trivial⟩
          simp only [put_lit, put_none, List.set_cons_succ, List.set_cons_zero]
          apply ObligF.free
          case h =>
            intro S gh w1 hwi hSi hd hcl
            apply StepG.intro
            intro K hK
            go_simp
            refine (mem_Log (HM.out.same hwi.1) (by omega)).mono ?_
            rintro e w2 ⟨A2, c2, rfl, hi, hk⟩
            apply hK
            · rfl
            · exact ⟨Keep0.step hwi.1 hk, GWI.free (hwi.2.keep tellL_stable hk) ⟨_, c2, rfl, hi⟩⟩
          simp only [put_lit, put_none, List.set_cons_succ, List.set_cons_zero]
          apply ObligF.fixed
          case h =>
            intro S gh w1 hwi hSi hd hcl
            apply StepOk.intro
            intro K hK
            have qr := (HR.out.keep hwi.1 (fun _ _ h => h)).mem.k2
            go_simp
            apply hK
            · rfl
            · conv => (lhs; whnf)
            · exact ⟨hwi.1, GWI.fixed hwi.2 trivial⟩
          simp only [put_lit, put_none, List.set_cons_succ, List.set_cons_zero]
          apply ObligF.fixed
          case h =>
            intro S gh w1 hwi hSi hd hcl
            apply StepOk.intro
            intro K hK
            have qr := (HR.out.keep hwi.1 (fun _ _ h => h)).mem.k2
            go_simp
            apply hK
            · rfl
            · conv => (lhs; whnf)
            · exact ⟨hwi.1, GWI.fixed hwi.2 trivial⟩
          simp only [put_lit, put_none, List.set_cons_succ, List.set_cons_zero]
          apply ObligF.fixed
          case h =>
            intro S gh w1 hwi hSi hd hcl
            apply StepOk.intro
            intro K hK
            have qr := (HR.out.keep hwi.1 (fun _ _ h => h)).mem.k2
            go_simp
            apply hK
            · rfl
            · conv => (lhs; whnf)
            · exact ⟨hwi.1, GWI.fixed hwi.2 trivial⟩
          simp only [put_lit, put_none, List.set_cons_succ, List.set_cons_zero]
          apply ObligF.fixed
          case h =>
            intro S gh w1 hwi hSi hd hcl
            apply StepOk.intro
            intro K hK
            have qr := (HR.out.keep hwi.1 (fun _ _ h => h)).mem.k2
            go_simp
            apply hK
            · rfl
            · conv => (lhs; whnf)
            · exact ⟨hwi.1, GWI.fixed hwi.2 trivial⟩
          simp only [put_lit, put_none, List.set_cons_succ, List.set_cons_zero]
          apply ObligF.fixed
          case h =>
            intro S gh w1 hwi hSi hd hcl
            apply StepOk.intro
            intro K hK
            obtain ⟨A1, c1, e1, hi1⟩ := hwi.2 3 (hd ⟨3, .data⟩ (by simp) rfl)
            rw [e1]
            go_simp
            refine (same_log A1 LA _ c1 LC _ hi1 (HLA.out.keep hwi.1) (by omega)).mono ?_
            rintro e w2 ⟨rfl, hk⟩
            apply hK
            · rfl
            · conv => (lhs; whnf)
            · exact ⟨Keep0.step hwi.1 hk, GWI.fixed (hwi.2.keep tellL_stable hk) trivial⟩
          simp only [put_lit, put_none, List.set_cons_succ, List.set_cons_zero]
          apply ObligF.fixed
          case h =>
            intro S gh w1 hwi hSi hd hcl
            apply StepOk.intro
            intro K hK
            have qr := (HR.out.keep hwi.1 (fun _ _ h => h)).mem.k2
            go_simp
            apply hK
            · rfl
            · conv => (lhs; whnf)
            · exact ⟨hwi.1, GWI.fixed hwi.2 trivial⟩
          simp only [put_lit, put_none, List.set_cons_succ, List.set_cons_zero]
          apply ObligF.fixed
          case h =>
            intro S gh w1 hwi hSi hd hcl
            apply StepOk.intro
            intro K hK
            have qr := (HR.out.keep hwi.1 (fun _ _ h => h)).mem.k2
            go_simp
            apply hK
            · rfl
            · conv => (lhs; whnf)
            · exact ⟨hwi.1, GWI.fixed hwi.2 trivial⟩
          simp only [put_lit, put_none, List.set_cons_succ, List.set_cons_zero]
          apply ObligF.fixed
          case h =>
            intro S gh w1 hwi hSi hd hcl
            apply StepOk.intro
            intro K hK
            have qr := (HR.out.keep hwi.1 (fun _ _ h => h)).mem.k2
            go_simp
            apply hK
            · rfl
            · conv => (lhs; whnf)
            · exact ⟨hwi.1, GWI.fixed hwi.2 trivial⟩
          simp only [put_lit, put_none, List.set_cons_succ, List.set_cons_zero]
          apply ObligF.fixed
          case h =>
            intro S gh w1 hwi hSi hd hcl
            apply StepOk.intro
            intro K hK
            go_simp
            refine (mem_Len (HM.out.same hwi.1)).mono ?_
            rintro e w2 ⟨rfl, rfl⟩
            rw [HW.out]
            apply hK
            · rfl
            · conv => (lhs; whnf)
            · exact ⟨hwi.1, GWI.fixed hwi.2 trivial⟩
          simp only [put_lit, put_none, List.set_cons_succ, List.set_cons_zero]
          apply ObligF.fixed
          case h =>
            intro S gh w1 hwi hSi hd hcl
            apply StepOk.intro
            intro K hK
            have qr := (HR.out.keep hwi.1 (fun _ _ h => h)).mem.k2
            go_simp
            apply hK
            · rfl
            · conv => (lhs; whnf)
            · exact ⟨hwi.1, GWI.fixed hwi.2 trivial⟩
          simp only [put_lit, put_none, List.set_cons_succ, List.set_cons_zero]
          apply ObligF.fixed
          case h =>
            intro S gh w1 hwi hSi hd hcl
            apply StepOk.intro
            intro K hK
            have qr := (HR.out.keep hwi.1 (fun _ _ h => h)).mem.k2
            go_simp
            apply hK
            · rfl
            · conv => (lhs; whnf)
            · exact ⟨hwi.1, GWI.fixed hwi.2 trivial⟩
          simp only [put_lit, put_none, List.set_cons_succ, List.set_cons_zero]
          apply ObligF.fixed
          case h =>
            intro S gh w1 hwi hSi hd hcl
            apply StepOk.intro
            intro K hK
            have qr := (HR.out.keep hwi.1 (fun _ _ h => h)).mem.k2
            go_simp
            apply hK
            · rfl
            · conv => (lhs; whnf)
            · exact ⟨hwi.1, GWI.fixed hwi.2 trivial⟩
          simp only [put_lit, put_none, List.set_cons_succ, List.set_cons_zero]
          apply ObligF.fixed
          case h =>
            intro S gh w1 hwi hSi hd hcl
            apply StepOk.intro
            intro K hK
            have qr := (HR.out.keep hwi.1 (fun _ _ h => h)).mem.k2
            go_simp
            apply hK
            · rfl
            · conv => (lhs; whnf)
            · exact ⟨hwi.1, GWI.fixed hwi.2 trivial⟩
          simp only [put_lit, put_none, List.set_cons_succ, List.set_cons_zero]
          exact ObligF.nil
        case h0 =>
          exact ⟨(Keep.refl _ _).drew, GWI.start _ _ _⟩
        case hend =>
          intro S gh wx hwi hall
          have HKX := hid hwi.1
          go_wp2_with fail
          go_ret
          exact ⟨rfl, Keep0.step HK.out HKX.out⟩
end Go.Proofs.Ytjpkepceenghcaa
