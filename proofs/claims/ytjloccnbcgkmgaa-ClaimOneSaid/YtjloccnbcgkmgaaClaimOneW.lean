/- ClaimOne: machines that claim by turns, whatever the order. -/
import Derived.Test.YtjloccnbcgkmgaaLawClaim
import Derived.Test.YtjloccnbcgkmgaaHeadClaim
import Derived.Test.YtjloccnbcgkmgaaClaimOM
import Derived.Test.YtjloccnbcgkmgaaRowThree
import Derived.Test.YtjloccnbcgkmgaaRowMany
import Derived.Test.YtjloccnbcgkmgaaRefTen
namespace Go.Proofs.Ytjloccnbcgkmgaa
open Go.RowKit
set_option linter.unusedVariables false
set_option linter.unusedSimpArgs false
set_option maxRecDepth 100000
theorem info_cptr : (Try.prog.info? 32).map (fun i => (i.zero, i.size, i.bytes)) = some (some (.pointer none), 1, 8) := by kernel_rfl
theorem info_cbool : (Try.prog.info? 4).map (fun i => (i.zero, i.size, i.bytes)) = some (some (.bool false), 1, 1) := by kernel_rfl
theorem made_boolsC (n : Nat) : madeCells (Value.bool false).cells n = (List.replicate n (Value.bool false)).toArray := by
  apply Array.ext
  · simp [madeCells]
  · intro i h1 h2
    have e : i % 1 = 0 := Nat.mod_one i
    simp [madeCells, Value.cells, e]
theorem snoc_allC {xs : List Nat} {x N : Nat} (h : ∀ q (hq : q < xs.length), N ≤ xs[q]) (hx : N ≤ x) : ∀ q (hq : q < (xs ++ [x]).length), N ≤ (xs ++ [x])[q] := by
  intro q hq
  by_cases e : q < xs.length
  · rw [List.getElem_append_left e]; exact h q e
  · rw [List.getElem_append_right (by omega)]; simpa using hx
set_option maxHeartbeats 4000000 in
theorem claimOne_walk {w : World} {v0 v1 v3 : Value} (hc : ConfIn w v0) (hv : ∃ l, IntsIn w v1 l) (many : Int) (hmany : (Lit.int .u8 many).wf = true) (h2 : ∃ l, KsIn .u8 w v3 l ∧ ∀ i, i < l.length → 0 ≤ rd l i ∧ rd l i ≤ 255) : Calls Try.prog 3 #[v0, v1, .int .u8 many, v3] w (Ret (.bool true) w) := by
  have hmany := bounds_u8 hmany
  obtain ⟨pk, ⟨PKA, pkc, rfl, hpk63, hpk⟩, hpkb⟩ := h2
  have HPKA := hid hpk
  have HPKB := hid hpkb
  clear hpk hpkb
  obtain ⟨t, s, g, l, r, k, P, L, PA, pc, LA, lc, rfl, hP, hL, hp1, hl1⟩ := hc
  obtain ⟨V, VA, vc, rfl, hv1, hV⟩ := hv
  have HGD := hid (fun (w' : World) (hk : Keep0 w w') => law11_Good t s g l r k PA P pc LA L lc VA V.length vc none 0 0 w' (hP.keep hk) (hL.keep hk) hp1 hl1)
  have HLI := hid hL
  have HVI := hid hV
  clear hP hL hV hp1 hl1
  have HK0 : Hid (Keep0 w (w.alloc (.cells #[i64 t, i64 s, i64 g, i64 l, i64 r, i64 k, .slice PA P.length pc, .slice LA L.length lc] 24))) := hid ((Keep.refl _ _).alloc _)
  have hm0 : 0 ≤ many % 6 := Int.emod_nonneg _ (by omega)
  have hm1 : many % 6 < 6 := Int.emod_lt_of_pos _ (by omega)
  obtain ⟨n, hn⟩ : ∃ n : Nat, (n : Int) = many % 6 + 1 := ⟨(many % 6 + 1).toNat, by omega⟩
  have hn16 : 1 ≤ n ∧ n ≤ 6 := by omega
  have HMN := hid hn
  have yn1 : IntKind.i64.wrap (many % 6 + 1) = (n : Int) := by rw [hn]; exact IntWalk.i64_in _ (by omega)
  have yn2 : many.tmod 6 = many % 6 := Int.tmod_eq_emod_of_nonneg hmany.1
  clear hn hm0 hm1
  go_enter Try.func3, Try.ntmps3
  go_wp2_with fail
  have HB : Hid (Blk (w.alloc (.cells #[i64 t, i64 s, i64 g, i64 l, i64 r, i64 k, .slice PA P.length pc, .slice LA L.length lc] 24)) w.heap.size 24 [i64 t, i64 s, i64 g, i64 l, i64 r, i64 k, .slice PA P.length pc, .slice LA L.length lc]) := hid (Blk.made rfl rfl)
  have qHB := HB.out.k8
  refine (law11_head _).mono ?_
  rintro e w1 ⟨rfl, hk⟩
  have HK1 : Hid (Keep0 w w1) := hid (Keep0.step (by repeat (with_reducible first | exact Keep.refl _ _ | exact HK0.out | apply Keep.alloc | apply Keep.drewN | apply Keep.drew)) hk)
  have THB := hk.blk (show Blk _ _ _ _ from by repeat (with_reducible first | exact HB.out | apply Blk.alloc | apply Blk.drewN | apply Blk.drew)) (fun h => h)
  clear hk qHB HB HK0
  have HB := hid THB
  clear THB
  have qHB := HB.out.k8
  go_wp2_with fail
  refine (HGD.out _ HK1.out).mono ?_
  rintro e w2 ⟨rfl, hk⟩
  have HK2 : Hid (Keep0 w w2) := hid (Keep0.step (by repeat (with_reducible first | exact Keep.refl _ _ | exact HK1.out | apply Keep.alloc | apply Keep.drewN | apply Keep.drew)) hk)
  have THB := hk.blk (show Blk _ _ _ _ from by repeat (with_reducible first | exact HB.out | apply Blk.alloc | apply Blk.drewN | apply Blk.drew)) (fun h => h)
  clear hk qHB HB HK1
  have HB := hid THB
  clear THB
  have qHB := HB.out.k8
  clear HGD
  cases hgood : good11 t s g l r k P L V.length 0
  · go_wp2_with fail
    go_ret
    exact ⟨rfl, HK2.out⟩
  by_cases hpk2 : 200 < pk.length
  · have gp2 : (200 < (pk.length : Int)) = True := by simp; omega
    go_wp2_with fail
    go_ret
    exact ⟨rfl, HK2.out⟩
  have gp2 : (200 < (pk.length : Int)) = False := by simp; omega
  simp only [good11, Bool.and_eq_true, decide_eq_true_eq] at hgood
  obtain ⟨⟨hgood, hv40⟩, hk40⟩ := hgood
  have R := Right.of hgood
  clear hgood hv1
  obtain ⟨K, rfl⟩ := Int.eq_ofNat_of_zero_le (show 0 ≤ k by have := R.k; omega)
  have hs := R.sb
  have hp := R.p
  have hK : 1 ≤ K ∧ K ≤ 16 := by have := R.k; omega
  have hm4 := mul_bd 12 22 (show (0 : Int) ≤ P.length by omega) (by omega) (show 0 ≤ 6 + 2 * s by omega) (by omega)
  obtain ⟨q, hq⟩ : ∃ q : Nat, (q : Int) = P.length * (6 + 2 * s) := ⟨((P.length : Int) * (6 + 2 * s)).toNat, by omega⟩
  have hq264 : q ≤ 264 := by omega
  have HWO := hid (fun (w' : World) (hk : Keep0 w w') => law11_words t s g l r K q PA P pc LA L lc VA V vc w' (HLI.out.keep hk) (HVI.out.keep hk) R hq hv40)
  have hln : q + 2 * K = (words11 s K P.length q L V).length := by rw [words11, tkW_length, freshW_length]; omega
  have HQ := hid hq
  have HR := hid R
  clear hm4 R hq HLI HVI
  generalize words11 s K P.length q L V = WW at *
  have hWm : WW.length ≤ 10000 := by omega
  have hW0 : 0 < WW.length := by omega
  have hk2s := HK2.out.size
  go_wp2_with fail
  refine (HWO.out _ HK2.out).mono ?_
  rintro e w3 ⟨WA, Wc, rfl, how, hk⟩
  have HK3 : Hid (Keep0 w w3) := hid (Keep0.step (by repeat (with_reducible first | exact Keep.refl _ _ | exact HK2.out | apply Keep.alloc | apply Keep.drewN | apply Keep.drew)) hk)
  have THB := hk.blk (show Blk _ _ _ _ from by repeat (with_reducible first | exact HB.out | apply Blk.alloc | apply Blk.drewN | apply Blk.drew)) (fun h => h)
  clear hk qHB HB HK2
  have HB := hid THB
  clear THB
  have qHB := HB.out.k8
  obtain ⟨wg, rfl, hwg, hwge⟩ := ints_own how (by omega) rfl
  have HWG := hid hwg
  clear hwg HWO
  have hwz : w.heap.size ≤ wg := Nat.le_trans hk2s hwge
  clear hk2s
  clear how hwge
  have hwg3 := HWG.out.lt
  have hk3s := HK3.out.size
  go_wp2_with fail
  refine (law8_Laid w.heap.size _ _ _ WW HWG.out.at_ hWm HK3.out.size).mono ?_
  rintro e w4 ⟨m, a, lv, rfl, hm, hk, hzm, hza⟩
  have HK4 : Hid (Keep0 w w4) := hid (Keep0.step (by repeat (with_reducible first | exact Keep.refl _ _ | exact HK3.out | apply Keep.alloc | apply Keep.drewN | apply Keep.drew)) hk)
  have THB := hk.blk (show Blk _ _ _ _ from by repeat (with_reducible first | exact HB.out | apply Blk.alloc | apply Blk.drewN | apply Blk.drew)) (fun h => h)
  have THWG := hk.ints (show Ints _ _ _ from by repeat (with_reducible first | exact HWG.out | apply Ints.alloc | apply Ints.drewN | apply Ints.drew)) (fun h => h)
  clear hk qHB HB HWG HK3
  have HB := hid THB
  clear THB
  have qHB := HB.out.k8
  have HWG := hid THWG
  clear THWG
  have HM := hid hm
  have hzm' : w.heap.size ≤ m := Nat.le_trans hk3s hzm
  have hza' : w.heap.size ≤ a := Nat.le_trans hk3s hza
  clear hk3s
  have hwgm : wg ≠ a := by omega
  have hwgm2 : wg ≠ m := by omega
  clear hm hzm hza hwg3
  obtain ⟨i0, hti, hz0, hz1, hz2⟩ := info_parts info_cptr
  have HI := hid hti
  clear hti
  have haz := HM.out.words.lt
  go_wp2_with fail
  go_loopw [13, 14] (fun v13 v14 wr => ∃ j : Nat, j ≤ n ∧ v14 = .int .i64 j ∧ ∃ A1 c1 xs, v13 = .slice A1 j c1 ∧ wr.ownsRow w4.heap.size 32 1 (.slice A1 j c1) j (xs.map ptr) ∧ CMs wr ⟨t, s, g, l, r, PA, P.length, pc, LA, L.length, lc⟩ K q a xs (List.replicate j ⟨0, false, 0, 0, 0, 0⟩) ∧ (∀ q (hq : q < xs.length), w4.heap.size ≤ xs[q]) ∧ Blk wr w.heap.size 24 [i64 t, i64 s, i64 g, i64 l, i64 r, i64 (K : Int), .slice PA P.length pc, .slice LA L.length lc] ∧ Keep0 w4 wr) (fun _ v _ => n - (intOf v).toNat)
  case atStart => exact ⟨0, Nat.zero_le _, rfl, none, 0, [], rfl, World.ownsRow_nil _ _ _ _, ⟨rfl, fun i h => by simp at h, fun i j h => by simp at h⟩, fun q hq => by simp at hq, HB.out, Keep.refl _ _⟩
  case round =>
    obtain ⟨j, hj, rfl, A1, c1, xs, rfl, ho, hmr, hxb, hb, hkr⟩ := hrel
    have HO := hid ho
    have HMR := hid hmr
    have HXB := hid hxb
    have HBB := hid hb
    have HKR := hid hkr
    have qb := hb.k8
    clear ho hmr hxb hb hkr qHB
    by_cases hjl : j < n
    · have hxl := HMR.out.len
      rw [List.length_replicate] at hxl
      have hnew := fun w' => claim_New ⟨t, s, g, l, r, PA, P.length, pc, LA, L.length, lc⟩ K j w' hK (by omega)
      have HNEW := hid hnew
      clear hnew
      go_wp2_with fail
      refine (HNEW.out _).mono ?_
      rintro e w20 ⟨x, gl, cc, rfl, hx, hgl, hcap, hk, hcl, hr⟩
      have hrs := HKR.out.size
      have HK20 := hid (HKR.out.trans hk (fun _ _ h => h))
      have hown20 := (ownsRow_keep (S := fun _ => False) HO.out hk (fun _ _ h => h))
      have hga : gl ≠ a := by omega
      have HMS20 := hid (HMR.out.snoc hk (by rw [hxl]; exact hcl [] []) (by rw [hxl]; exact hr) hga ⟨HQ.out, hs, (by show P.length ≤ 1000; omega), hcap⟩ hx)
      have HB20 := hid (hk.blk HBB.out (fun h => h))
      have hxz := Nat.le_trans hrs hx
      clear hk hcl hr HBB HMR qb HO HNEW
      go_wp2_with (at_builtin; refine wpl_append_own ?a1 (.tmp 49) (.tmp 53) 31 ?a2 (w4.heap.size) 32 i0 ?z 1 8 ?a3 ?a4 ?a5 ?a6 ?a7 ?a8 ?a9 (.slice A1 j c1) (j) (xs.map ptr) ?a10 ?hown (⟨w20.heap.size, 0, none⟩) (1) (1) ([ptr x]) ?a11 ?a12 ?hnews ?hone ?h63 ?hby ?hbase ?_; (case a1 => rfl); (case a2 => rfl); (case a3 => exact Try.underlying31); (case a4 => exact HI.out); (case a5 => exact hz0); (case a6 => exact hz1); (case a7 => exact hz2); (case a8 => rfl); (case a9 => decide); (case a10 => rfl); (case a11 => rfl); (case a12 => rfl); (case hown => exact ownsRow_keep (S := fun _ => False) hown20 ((Keep.refl _ w20).alloc _) (fun _ _ h => h)); (case h63 => unfold maxLen; omega); (case hby => omega); (case hnews => exact news_at (Blk.made (by simp) rfl)); (case hone => simp [Value.oneCell']); (case hbase => have := HK20.out.size; simp; omega); intro A9 c9 w9 hown9 hg9 hsl9)
      have HOA := ownsRow_keep (S := fun _ => False) hown20 ((Keep.refl _ w20).alloc (.cells #[ptr x] 32)) (fun _ _ h => h)
      have HMR9 := hid ((HMS20.out.keep ((Keep.refl (fun _ => False) w20).alloc (.cells #[ptr x] 32)) (fun _ _ h => h) (fun _ _ _ _ h => h)).grown HOA hg9)
      have HB9 := hid (grown_blk hg9 (HB20.out.alloc (.cells #[ptr x] 32)) (ownBlock_ne HOA (HB20.out.alloc (.cells #[ptr x] 32)) (by decide)))
      have HK9 : Hid (Keep0 w4 w9) := hid (Keep.grown (HK20.out.alloc (.cells #[ptr x] 32)) hg9 (fun k hk e => by have := (HOA.lt k e).1; omega))
      have HO9 := hid (show w9.ownsRow w4.heap.size 32 1 (.slice A9 (j + 1) c9) (j + 1) ((xs ++ [x]).map ptr) from by rw [List.map_append]; exact hown9)
      have HRP := hid (show List.replicate (j + 1) (Cm.mk 0 false 0 0 0 0) = List.replicate j (Cm.mk 0 false 0 0 0 0) ++ [Cm.mk 0 false 0 0 0 0] from List.replicate_succ')
      clear hown9 hown20 hg9 hsl9 HOA HB20 HMS20 HK20
      go_roundw
      case rel => exact ⟨j + 1, by omega, by go_num, A9, c9, xs ++ [x], rfl, HO9.out, by rw [HRP.out]; exact HMR9.out, snoc_allC HXB.out hxz, HB9.out, HK9.out⟩
      case measure => simp [intOf]; omega
    · obtain rfl : n = j := by omega
      obtain ⟨ib0, hib, hb0, hb1, hb2⟩ := info_parts info_cbool
      have hmk := fun w => run_make (P := Try.prog) w 34 4 ib0 (.bool false) Try.underlying34 hib hb0 .i64 .i64 (n : Int) (n : Int) (by omega) (by omega) (by rw [hb2]; omega) (by omega)
      simp only [hb1, Nat.mul_one, made_boolsC, Int.toNat_natCast] at hmk
      clear hib hb0 hb1 hb2
      have HMK := hid hmk
      have hA1 : A1 ≠ none := fun e => by
        have h := HO.out
        rcases h.2 with ⟨e', h0⟩ | ⟨g', cap, cur, e', _⟩
        · omega
        · cases e'; cases e
      obtain ⟨rb, rfl, hrow, hrb6, hrbz0⟩ : ∃ rb, A1 = some ⟨rb, 0, none⟩ ∧ (∀ q (hq : q < xs.length), wr.cell? ⟨rb, q, none⟩ = some (ptr xs[q])) ∧ w4.heap.size ≤ rb ∧ rb < wr.heap.size := by
        have h := HO.out
        rcases h.2 with ⟨e', h0⟩ | ⟨g', cap, cur, e', hbg, hgg, _⟩
        · omega
        · cases e'
          refine ⟨g', rfl, fun q hq => ?_, hbg, (Array.getElem?_eq_some_iff.1 hgg).1⟩
          have h2 := h.cells (g := g') rfl q (ptr xs[q]) (by simp [hq])
          rw [addr_add] at h2
          exact h2
      have hxl : xs.length = n := by have := HMR.out.len; rw [List.length_replicate] at this; exact this
      have hrbt : ∀ {T : TypeId} {cs : List Value} {b : Nat}, Blk wr b T cs → T ≠ 32 → b ≠ rb := fun hb ht e => ownBlock_ne HO.out hb ht (by rw [e]; rfl)
      have hrbx : ∀ q (hq : q < xs.length), xs[q] ≠ rb := fun q hq => by
        obtain ⟨cs, hb⟩ := HMR.out.ty q hq
        exact hrbt hb (by decide)
      have HM7 := hid (HM.out.same HKR.out)
      have hrbm : m ≠ rb := hrbt HM7.out.mem (by decide)
      have hrba : a ≠ rb := hrbt HM7.out.words (by decide)
      have hrbl : lv.ownBlock ≠ some rb := fun e => own_own_ne HO.out HM7.out.log (by decide) rb rfl e
      have hbx : ∀ q (hq : q < xs.length), xs[q] ≠ w.heap.size := fun q hq e => by
        obtain ⟨cs, hb⟩ := HMR.out.ty q hq
        exact hb.ne HBB.out (by decide) e
      have hbm : m ≠ w.heap.size := HM7.out.mem.ne HBB.out (by decide)
      have hba : a ≠ w.heap.size := HM7.out.words.ne HBB.out (by decide)
      have hbl : lv.ownBlock ≠ some w.heap.size := fun e => ownBlock_ne HM7.out.log HBB.out (by decide) e.symm
      have hbz := HBB.out.lt
      clear hjl hj
      have hmk := HMK.out
      go_wp2_with fail
      clear hmk qb
      have HOVB := hid (show Blk (wr.alloc (.cells (Array.replicate n (Value.bool false)) 4)) wr.heap.size 4 (ovrC (List.replicate n ⟨0, false, 0, 0, 0, 0⟩)) from by rw [← ovrC_start]; exact Blk.made rfl (by simp))
      have hwz8 : (wr.alloc (.cells (Array.replicate n (Value.bool false)) 4)).heap.size = wr.heap.size + 1 := by simp
      have HKA := hid ((Keep.refl (fun _ => False) wr).alloc (.cells (Array.replicate n (Value.bool false)) 4))
      have HK7 : Hid (Keep0 w wr) := hid (Keep0.step HK4.out HKR.out)
      generalize hw8 : wr.alloc (.cells (Array.replicate n (Value.bool false)) 4) = w8 at *
      have hobB0 : w.heap.size ≤ wr.heap.size := HK7.out.size
      generalize hob : wr.heap.size = ob at *
      have hobB : w.heap.size ≤ ob := hobB0
      have HK8 : Hid (Keep0 w w8) := hid (HK7.out.trans HKA.out (fun _ _ h => h))
      have HMS0 := hid (show CM w.heap.size m a ob ⟨t, s, g, l, r, PA, P.length, pc, LA, L.length, lc⟩ K q xs WW lv w8.heap.size 0 w8 WW [] (List.replicate n ⟨0, false, 0, 0, 0, 0⟩) (ovrC (List.replicate n ⟨0, false, 0, 0, 0, 0⟩)) from
        ⟨⟨lv, HM7.out.same HKA.out, fun _ h => Or.inl h⟩, OI.start n (by omega) hWm hK, HMR.out.keep HKA.out (fun _ _ h => h) (fun _ _ _ _ h => h), HOVB.out, by simp, Nat.le_refl _⟩)
      have hrbn : ¬ ((rb = m ∨ rb = a ∨ rb ∈ xs ∨ rb = ob ∨ lv.ownBlock = some rb) ∨ w8.heap.size ≤ rb) := by
        rintro ((h | h | h | h | h) | h)
        · exact hrbm h.symm
        · exact hrba h.symm
        · obtain ⟨q, hq, e⟩ := List.getElem_of_mem h
          exact hrbx q hq e
        · omega
        · exact hrbl h
        · omega
      have hboxn : ¬ ((w.heap.size = m ∨ w.heap.size = a ∨ w.heap.size ∈ xs ∨ w.heap.size = ob ∨ lv.ownBlock = some w.heap.size) ∨ w8.heap.size ≤ w.heap.size) := by
        rintro ((h | h | h | h | h) | h)
        · exact hbm h.symm
        · exact hba h.symm
        · obtain ⟨q, hq, e⟩ := List.getElem_of_mem h
          exact hbx q hq e
        · omega
        · exact hbl h
        · omega
      have hwgz := HWG.out.lt
      have hw5r := HKR.out.size
      have hwgn : ¬ ((wg = m ∨ wg = a ∨ wg ∈ xs ∨ wg = ob ∨ lv.ownBlock = some wg) ∨ w8.heap.size ≤ wg) := by
        rintro ((h | h | h | h | h) | h)
        · exact hwgm2 h
        · exact hwgm h
        · obtain ⟨q, hq, e⟩ := List.getElem_of_mem h
          have := HXB.out q hq
          omega
        · omega
        · obtain ⟨cur, hgg, _, _⟩ := HWG.out
          exact ownBlock_ne HM.out.log (show Blk w4 wg 3 cur.toList from by unfold Blk; simpa using hgg) (by decide) h.symm
        · omega
      have hrbz : rb < w8.heap.size := by omega
      have HROW := hid (fun q (hq : q < xs.length) (w' : World) (hk : Keep (fun b => (b = m ∨ b = a ∨ b ∈ xs ∨ b = ob ∨ lv.ownBlock = some b) ∨ w8.heap.size ≤ b) w8 w') => (show w'.cell? ⟨rb, q, none⟩ = some (ptr xs[q]) from (cell_old hk hrbz hrbn _).trans ((cell_old HKA.out (by rw [hob]; exact hrbz0) (fun h => h) _).trans (hrow q hq))))
      have HBOX := hid (fun (w' : World) (hk : Keep (fun b => (b = m ∨ b = a ∨ b ∈ xs ∨ b = ob ∨ lv.ownBlock = some b) ∨ w8.heap.size ≤ b) w8 w') => (show Blk w' w.heap.size 24 [i64 t, i64 s, i64 g, i64 l, i64 r, i64 (K : Int), .slice PA P.length pc, .slice LA L.length lc] from hk.blk (HKA.out.blk HBB.out (fun h => h)) hboxn))
      have HLV5 := hid (fun b (e : lv.ownBlock = some b) => (HM7.out.log.lt b e).1)
      have hw6 := HK4.out.size
      have HFAR := hid (fun (w' : World) (hk : Keep (fun b => (b = m ∨ b = a ∨ b ∈ xs ∨ b = ob ∨ lv.ownBlock = some b) ∨ w8.heap.size ≤ b) w8 w') => (show Keep0 w w' from by
        refine keep_far11 HK8.out hk ?_
        rintro b ((rfl | rfl | h | rfl | h) | h)
        · exact hzm'
        · exact hza'
        · obtain ⟨q, hq, rfl⟩ := List.getElem_of_mem h
          exact Nat.le_trans hw6 (HXB.out q hq)
        · exact hobB
        · exact HLV5.out b h
        · exact Nat.le_trans HK8.out.size h))
      have HWG8 := hid (fun (w' : World) (hk : Keep (fun b => (b = m ∨ b = a ∨ b ∈ xs ∨ b = ob ∨ lv.ownBlock = some b) ∨ w8.heap.size ≤ b) w8 w') => (show Ints w' wg WW from hk.ints (HKA.out.ints (HKR.out.ints HWG.out (fun h => h)) (fun h => h)) hwgn))
      clear HO HMR HXB HBB HKR HMK HM HM7 HK4 HK7 HKA HOVB HWG hrow hrbx hrbt hbx hrbn hboxn hwgn hw8 HI hz0 hz1 hz2 hrbm hrba hrbl hbm hba hbl hwz8 hA1 HB
      have y40 : IntKind.i64.wrap (40 * (n : Int)) = 40 * (n : Int) := IntWalk.i64_in _ (by omega)
      have y42 : IntKind.i64.wrap ((pk.length : Int) + 40 * (n : Int)) = (pk.length : Int) + 40 * (n : Int) := IntWalk.i64_in _ (by omega)
      go_loopw [16] (fun v17 wr => ∃ i : Nat, i ≤ pk.length + 40 * n ∧ v17 = .int .i64 i ∧ ∃ W LG ms, CM w.heap.size m a ob ⟨t, s, g, l, r, PA, P.length, pc, LA, L.length, lc⟩ K q xs WW lv w8.heap.size i wr W LG ms (ovrC ms) ∧ ms.length = n ∧ ProgC K pk.length i ms ∧ Keep (fun b => (b = m ∨ b = a ∨ b ∈ xs ∨ b = ob ∨ lv.ownBlock = some b) ∨ w8.heap.size ≤ b) w8 wr) (fun v _ => pk.length + 40 * n - (intOf v).toNat)
      case atStart => exact ⟨0, Nat.zero_le _, rfl, WW, [], _, HMS0.out, List.length_replicate, ProgC.start, Keep.refl _ _⟩
      case round =>
        obtain ⟨i, hi, rfl, W, LG, ms, hms, hlen, hpr, hkm⟩ := hrel
        have HMS := hid hms
        have HPR := hid hpr
        have HKM := hid hkm
        clear hms hpr hkm HMS0
        by_cases hlt : i < pk.length + 40 * n
        · have glt : ((i : Int) < (pk.length : Int) + 40 * (n : Int)) = True := by simp; omega
          have hi0 : (0 : Int) ≤ i := by omega
          have hnz : (n : Int) ≠ 0 := by omega
          have hnz2 : n ≠ 0 := by omega
          obtain ⟨k0, hk0⟩ : ∃ k0 : Nat, k0 = i % n := ⟨_, rfl⟩
          have hk0l : k0 < n := by rw [hk0]; exact Nat.mod_lt _ (by omega)
          have hk0i : ((i : Int)).tmod (n : Int) = (k0 : Int) := by rw [Int.tmod_eq_emod_of_nonneg hi0, hk0]; simp
          have hk0j : ((i : Int)) % (n : Int) = (k0 : Int) := by rw [hk0]; simp
          have HKZ := hid hk0
          clear hk0
          by_cases hip : i < pk.length
          · have gip : ((i : Int) < (pk.length : Int)) = True := by simp; omega
            obtain ⟨pb, po, rfl, hpc⟩ := (HPKA.out.keep (HFAR.out wr HKM.out)).cell (by omega)
            have cp := hpc i hip
            have cpz := World.block_lt_of_cell? _ _ cp
            simp only at cpz
            have hpb := HPKB.out i hip
            have y1 : IntKind.i64.wrap (rd pk i) = rd pk i := IntWalk.i64_in _ (by omega)
            obtain ⟨kk, hk⟩ := Int.eq_ofNat_of_zero_le (Int.emod_nonneg (rd pk i) hnz)
            have hkl : kk < n := by have := Int.emod_lt_of_pos (rd pk i) (show (0 : Int) < n by omega); omega
            have y2 : (rd pk i).tmod (n : Int) = (kk : Int) := by rw [Int.tmod_eq_emod_of_nonneg hpb.1]; exact hk
            clear hpc
            have hkx : kk < xs.length := by have := HMS.out.row.len; omega
            have hkm : kk < ms.length := by rw [hlen]; exact hkl
            have hik : pk.length ≤ i → i % ms.length = kk := fun h => absurd h (by omega)
            have co : wr.cell? ⟨ob, kk, none⟩ = some (.bool (decide (ms[kk].fin ≠ 0))) := by rw [HMS.out.ovr.cell kk]; exact ovrC_get ms kk hkm
            have cf := HMS.out.ovr.frozen kk
            have cz := HMS.out.ovr.lt
            by_cases h7 : ms[kk].fin ≠ 0
            · rw [decide_eq_true h7] at co
              go_wp2_with fail
              go_roundw
              case rel => exact ⟨i + 1, by omega, by go_num, W, LG, ms, HMS.out.more, hlen, HPR.out.stay kk hkm h7 hik, HKM.out⟩
              case measure => simp [intOf]; omega
            · rw [decide_eq_false h7] at co
              have h77 : ms[kk].fin = 0 := by omega
              have cr := HROW.out kk hkx wr HKM.out
              have crz := Nat.lt_of_lt_of_le hrbz HKM.out.size
              have hst := HMS.out.step kk hkm hkx h77 (by omega)
              have hpg := HPR.out.step kk hkm (HMS.out.oi.inv kk hkm) h77 hik
              have hov := ovrC_set ms kk (cNext K kk q (ms[kk].cs W LG)) hkm
              have hnl : (ms.set kk (Cm.of (cNext K kk q (ms[kk].cs W LG)))).length = n := by rw [List.length_set]; exact hlen
              generalize cNext K kk q (ms[kk].cs W LG) = t8 at *
              generalize ms.set kk (Cm.of t8) = ms8 at *
              have HST := hid hst
              have HPG := hid hpg
              have HOV := hid hov
              clear hst hpg hov
              generalize xs[kk] = xk at *
              go_wp2_with fail
              refine HST.out.mono ?_
              rintro e w9 ⟨rfl, hms9, hk9⟩
              have hob9 := hms9.ovr
              have co9 : w9.cell? ⟨ob, kk, none⟩ = some (.bool false) := by rw [hob9.cell kk, ovrC_get ms kk hkm, decide_eq_false h7]
              have cf9 := hob9.frozen kk
              have cz9 := hob9.lt
              have HM9 := hid (show CM w.heap.size m a ob ⟨t, s, g, l, r, PA, P.length, pc, LA, L.length, lc⟩ K q xs WW lv w8.heap.size (i + 1) (w9.setCell ⟨ob, kk, none⟩ (.bool (decide (t8.fin ≠ 0)))) t8.W t8.L ms8 (ovrC ms8) from by rw [HOV.out]; exact hms9.set kk _)
              have HK9 := hid (show Keep (fun b => (b = m ∨ b = a ∨ b ∈ xs ∨ b = ob ∨ lv.ownBlock = some b) ∨ w8.heap.size ≤ b) w8 (w9.setCell ⟨ob, kk, none⟩ (.bool (decide (t8.fin ≠ 0)))) from (HKM.out.trans (hk9.mono (by
                rintro b ((h | h | h | h) | h)
                · exact Or.inl (Or.inl h)
                · exact Or.inl (Or.inr (Or.inl h))
                · exact Or.inl (Or.inr (Or.inr (Or.inl h)))
                · exact Or.inl (Or.inr (Or.inr (Or.inr (Or.inr h))))
                · exact Or.inr h)) (fun _ _ h => h)).set _ _ (fun _ => Or.inl (Or.inr (Or.inr (Or.inr (Or.inl rfl))))))
              clear hms9 hk9 hob9 HST
              generalize decide (t8.fin ≠ 0) = bo at *
              go_wp2_with fail
              go_roundw
              case rel => exact ⟨i + 1, by omega, by go_num, t8.W, t8.L, ms8, HM9.out, hnl, HPG.out, HK9.out⟩
              case measure => simp [intOf]; omega
          · have gip : ((i : Int) < (pk.length : Int)) = False := by simp; omega
            obtain ⟨kk, hkk0⟩ : ∃ q, q = k0 := ⟨_, rfl⟩
            subst hkk0
            have hkl := hk0l
            have hkx : kk < xs.length := by have := HMS.out.row.len; omega
            have hkm : kk < ms.length := by rw [hlen]; exact hkl
            have hik : pk.length ≤ i → i % ms.length = kk := fun _ => by rw [hlen]; exact HKZ.out.symm
            have co : wr.cell? ⟨ob, kk, none⟩ = some (.bool (decide (ms[kk].fin ≠ 0))) := by rw [HMS.out.ovr.cell kk]; exact ovrC_get ms kk hkm
            have cf := HMS.out.ovr.frozen kk
            have cz := HMS.out.ovr.lt
            by_cases h7 : ms[kk].fin ≠ 0
            · rw [decide_eq_true h7] at co
              go_wp2_with fail
              go_roundw
              case rel => exact ⟨i + 1, by omega, by go_num, W, LG, ms, HMS.out.more, hlen, HPR.out.stay kk hkm h7 hik, HKM.out⟩
              case measure => simp [intOf]; omega
            · rw [decide_eq_false h7] at co
              have h77 : ms[kk].fin = 0 := by omega
              have cr := HROW.out kk hkx wr HKM.out
              have crz := Nat.lt_of_lt_of_le hrbz HKM.out.size
              have hst := HMS.out.step kk hkm hkx h77 (by omega)
              have hpg := HPR.out.step kk hkm (HMS.out.oi.inv kk hkm) h77 hik
              have hov := ovrC_set ms kk (cNext K kk q (ms[kk].cs W LG)) hkm
              have hnl : (ms.set kk (Cm.of (cNext K kk q (ms[kk].cs W LG)))).length = n := by rw [List.length_set]; exact hlen
              generalize cNext K kk q (ms[kk].cs W LG) = t8 at *
              generalize ms.set kk (Cm.of t8) = ms8 at *
              have HST := hid hst
              have HPG := hid hpg
              have HOV := hid hov
              clear hst hpg hov
              generalize xs[kk] = xk at *
              go_wp2_with fail
              refine HST.out.mono ?_
              rintro e w9 ⟨rfl, hms9, hk9⟩
              have hob9 := hms9.ovr
              have co9 : w9.cell? ⟨ob, kk, none⟩ = some (.bool false) := by rw [hob9.cell kk, ovrC_get ms kk hkm, decide_eq_false h7]
              have cf9 := hob9.frozen kk
              have cz9 := hob9.lt
              have HM9 := hid (show CM w.heap.size m a ob ⟨t, s, g, l, r, PA, P.length, pc, LA, L.length, lc⟩ K q xs WW lv w8.heap.size (i + 1) (w9.setCell ⟨ob, kk, none⟩ (.bool (decide (t8.fin ≠ 0)))) t8.W t8.L ms8 (ovrC ms8) from by rw [HOV.out]; exact hms9.set kk _)
              have HK9 := hid (show Keep (fun b => (b = m ∨ b = a ∨ b ∈ xs ∨ b = ob ∨ lv.ownBlock = some b) ∨ w8.heap.size ≤ b) w8 (w9.setCell ⟨ob, kk, none⟩ (.bool (decide (t8.fin ≠ 0)))) from (HKM.out.trans (hk9.mono (by
                rintro b ((h | h | h | h) | h)
                · exact Or.inl (Or.inl h)
                · exact Or.inl (Or.inr (Or.inl h))
                · exact Or.inl (Or.inr (Or.inr (Or.inl h)))
                · exact Or.inl (Or.inr (Or.inr (Or.inr (Or.inr h))))
                · exact Or.inr h)) (fun _ _ h => h)).set _ _ (fun _ => Or.inl (Or.inr (Or.inr (Or.inr (Or.inl rfl))))))
              clear hms9 hk9 hob9 HST
              generalize decide (t8.fin ≠ 0) = bo at *
              go_wp2_with fail
              go_roundw
              case rel => exact ⟨i + 1, by omega, by go_num, t8.W, t8.L, ms8, HM9.out, hnl, HPG.out, HK9.out⟩
              case measure => simp [intOf]; omega
        · have hieq : i = pk.length + 40 * ms.length := by rw [hlen]; omega
          have glt : ((i : Int) < (pk.length : Int) + 40 * (n : Int)) = False := by simp; omega
          have h7all : ∀ q (hq : q < ms.length), ms[q].fin ≠ 0 := fun q hq => by
            have h := HPR.out
            rw [hieq] at h
            exact h.done hK.2 q hq
          have H7 := hid h7all
          obtain ⟨_, hoi, hrow9, hov9, _, _⟩ := id HMS.out
          have HOI := hid hoi
          have HR9 := hid hrow9
          have HOV9 := hid hov9
          have HB9 := hid (HBOX.out wr HKM.out)
          have HG9 := hid (HWG8.out wr HKM.out)
          have HK9 : Hid (Keep0 w wr) := hid (HFAR.out wr HKM.out)
          have HROW9 := hid (fun q (hq : q < xs.length) => HROW.out q hq wr HKM.out)
          have hrb9 : rb < wr.heap.size := Nat.lt_of_lt_of_le hrbz HKM.out.size
          have hobz := HOV9.out.lt
          have hlenx : xs.length = n := hxl
          have HLEN := hid hlen
          obtain ⟨w9, rfl⟩ : ∃ w9 : World, w9 = wr := ⟨_, rfl⟩
          clear hoi hrow9 hov9 HMS HPR HKM HBOX HROW HFAR HWG8 h7all hlt hi hieq HLV5 HPKA HPKB hrb6 hwgz hw5r hw6 hbz hlen
          obtain ⟨ib0, hib, hb0, hb1, hb2⟩ := info_parts info_cbool
          have hmk := fun w => run_make (P := Try.prog) w 34 4 ib0 (.bool false) Try.underlying34 hib hb0 .i64 .i64 16 16 (by omega) (by omega) (by rw [hb2]; omega) (by omega)
          simp only [hb1, Nat.mul_one, made_boolsC, show (16 : Int).toNat = 16 from rfl] at hmk
          clear hib hb0 hb1 hb2
          go_wp2_with fail
          have HHB := hid (show Blk (w9.alloc (.cells #[.bool false, .bool false, .bool false, .bool false, .bool false, .bool false, .bool false, .bool false, .bool false, .bool false, .bool false, .bool false, .bool false, .bool false, .bool false, .bool false] 4)) w9.heap.size 4 (bls (List.replicate 16 false)) from by rw [bls_rep]; exact Blk.made rfl (by kernel_rfl))
          have hhz : w.heap.size ≤ w9.heap.size := HK9.out.size
          have HKB := hid ((Keep.refl (fun _ => False) w9).alloc (.cells #[.bool false, .bool false, .bool false, .bool false, .bool false, .bool false, .bool false, .bool false, .bool false, .bool false, .bool false, .bool false, .bool false, .bool false, .bool false, .bool false] 4))
          have HB10 := hid (HB9.out.alloc (.cells #[.bool false, .bool false, .bool false, .bool false, .bool false, .bool false, .bool false, .bool false, .bool false, .bool false, .bool false, .bool false, .bool false, .bool false, .bool false, .bool false] 4))
          have HG10 := hid (HG9.out.alloc (.cells #[.bool false, .bool false, .bool false, .bool false, .bool false, .bool false, .bool false, .bool false, .bool false, .bool false, .bool false, .bool false, .bool false, .bool false, .bool false, .bool false] 4))
          have HOV10 := hid (HOV9.out.alloc (.cells #[.bool false, .bool false, .bool false, .bool false, .bool false, .bool false, .bool false, .bool false, .bool false, .bool false, .bool false, .bool false, .bool false, .bool false, .bool false, .bool false] 4))
          have HK10 := hid (HK9.out.alloc (.cells #[.bool false, .bool false, .bool false, .bool false, .bool false, .bool false, .bool false, .bool false, .bool false, .bool false, .bool false, .bool false, .bool false, .bool false, .bool false, .bool false] 4))
          have HR10 := hid (HR9.out.keep HKB.out (fun _ _ h => h) (fun _ _ _ _ h => h))
          have HROW10 := hid (fun q (hq : q < xs.length) => (cell_old HKB.out hrb9 (fun h => h) _).trans (HROW9.out q hq))
          have hrb10 : rb < (w9.alloc (.cells #[.bool false, .bool false, .bool false, .bool false, .bool false, .bool false, .bool false, .bool false, .bool false, .bool false, .bool false, .bool false, .bool false, .bool false, .bool false, .bool false] 4)).heap.size := Nat.lt_of_lt_of_le hrb9 HKB.out.size
          have HS11 := hid (HI11.start (K := K) (q := q) (W0 := WW) (ms := ms))
          generalize hhb : w9.heap.size = hb at *
          generalize w9.alloc (.cells #[.bool false, .bool false, .bool false, .bool false, .bool false, .bool false, .bool false, .bool false, .bool false, .bool false, .bool false, .bool false, .bool false, .bool false, .bool false, .bool false] 4) = w10 at *
          clear hmk HB9 HG9 HOV9 HK9 HR9 HROW9 HKB hhb
          go_loopw [20, 21] (fun v u wr => ∃ j : Nat, j ≤ K ∧ u = .int .i64 (j : Int) ∧ v = .int .i64 (fC q WW j : Int) ∧ Keep0 w10 wr) (fun _ u _ => K - (intOf u).toNat)
          case atStart => exact ⟨0, Nat.zero_le _, rfl, rfl, Keep.refl _ _⟩
          case round =>
            obtain ⟨j, hj, rfl, rfl, hk⟩ := hrel
            have HKR := hid hk
            have HBR := hid (hk.blk HB10.out (fun h => h))
            have HWR := hid (hk.ints HG10.out (fun h => h))
            have qbr := HBR.out.k8
            clear hk
            by_cases hlt : j < K
            · have HTK := hid (fun (w' : World) => ref_Ticket t s g l r (K : Int) PA P.length pc LA L.length lc (j : Int) w' hs.1 hs.2 (by omega) (by omega) (by omega))
              rw [← HQ.out, show (q : Int) + 2 * (j : Int) = ((q + 2 * j : Nat) : Int) by push_cast; rfl] at HTK
              have HFC := hid (show fC q WW (j + 1) = fC q WW j + (if st10 (rd WW (q + 2 * j)) = 0 then 1 else 0) from rfl)
              have hfl := fC_le q WW j
              have hpl : q + 2 * j < WW.length := by omega
              generalize q + 2 * j = p at *
              have HST := hid (fun w' => ref10_State (rd WW p) w')
              have y4 : IntKind.i64.wrap ((j : Int) + 1) = (j : Int) + 1 := IntWalk.i64_in _ (by omega)
              generalize fC q WW j = f0 at *
              have y5 : IntKind.i64.wrap ((f0 : Int) + 1) = (f0 : Int) + 1 := IntWalk.i64_in _ (by omega)
              go_wp2_with fail
              refine (HTK.out _).mono ?_
              rintro e w20 ⟨rfl, hk⟩
              have qw := (hk.ints HWR.out (fun h => h)).cell p hpl
              have HK20 := hid (HKR.out.trans hk (fun _ _ h => h))
              clear hk
              go_wp2_with fail
              refine (HST.out _).mono ?_
              rintro e w21 ⟨rfl, rfl⟩
              by_cases hz : st10 (rd WW p) = 0
              · rw [if_pos hz] at HFC
                rw [hz]
                go_wp2_with fail
                go_roundw
                case rel => exact ⟨j + 1, by omega, by go_num, by rw [HFC.out]; go_num, HK20.out⟩
                case measure => first | (simp [intOf]; done) | (simp [intOf]; omega)
              · rw [if_neg hz] at HFC
                have y6 : (st10 (rd WW p) == 0) = false := by simpa using hz
                generalize st10 (rd WW p) = sz at *
                go_wp2_with fail
                go_roundw
                case rel => exact ⟨j + 1, by omega, by go_num, by rw [HFC.out, Nat.add_zero], HK20.out⟩
                case measure => first | (simp [intOf]; done) | (simp [intOf]; omega)
            · obtain rfl : K = j := by omega
              clear hj hlt
              have HB11 := hid HBR.out
              have HG11 := hid HWR.out
              have HR11 := hid (HR10.out.keep HKR.out (fun _ _ h => h) (fun _ _ _ _ h => h))
              have HOV11 := hid (HKR.out.blk HOV10.out (fun h => h))
              have HHB11 := hid (HKR.out.blk HHB.out (fun h => h))
              have HK11 : Hid (Keep0 w wr) := hid (HK10.out.trans HKR.out (fun _ _ h => h))
              have HROW11 := hid (fun q (hq : q < xs.length) => (cell_old HKR.out hrb10 (fun h => h) _).trans (HROW10.out q hq))
              have hrb11 : rb < wr.heap.size := Nat.lt_of_lt_of_le hrb10 HKR.out.size
              have hfl := fC_le q WW K
              have HF := hid (show fC q WW K = fC q WW K from rfl)
              obtain ⟨F, hF⟩ : ∃ F, F = fC q WW K := ⟨_, rfl⟩
              rw [← hF] at hfl ⊢
              have HFE := hid hF
              obtain ⟨w11, rfl⟩ : ∃ w11 : World, w11 = wr := ⟨_, rfl⟩
              clear HB10 HG10 HR10 HOV10 HHB HK10 HROW10 HKR HBR HWR HF hF
              go_wp2_with fail
              clear qbr
              go_loopw [19, 22] (fun v19 v22 wr => ∃ (i : Nat) (H : List Bool), i ≤ n ∧ v22 = .int .i64 (i : Int) ∧ v19 = .int .i64 (oC ms i : Int) ∧ HI11 K q WW ms i H ∧ Blk wr hb 4 (bls H) ∧ Keep (fun b => b = hb) w11 wr) (fun _ v _ => n - (intOf v).toNat)
              case atStart => exact ⟨0, _, Nat.zero_le _, rfl, rfl, HS11.out, HHB11.out, Keep.refl _ _⟩
              case round =>
                obtain ⟨i, H, hi, rfl, rfl, hin, hhb, hk⟩ := hrel
                have HIN := hid hin
                have HHR := hid hhb
                have HKR := hid hk
                have HBR := hid (hk.blk HB11.out (fun e => HB11.out.ne HHB11.out (by decide) e))
                have HGR := hid (hk.ints HG11.out (fun e => by
                  obtain ⟨cur, hgg, _, _⟩ := HG11.out
                  exact (show Blk w11 wg 3 cur.toList from by unfold Blk; simpa using hgg).ne HHB11.out (by decide) e))
                have HOR := hid (hk.blk HOV11.out (fun e => by have e' : ob = hb := e; omega))
                have HRR := hid (HR11.out.keep hk (fun q hq e => by
                  obtain ⟨cs, hb2⟩ := HR11.out.ty q hq
                  exact hb2.ne HHB11.out (by decide) e) (fun g cs hb2 _ e => hb2.ne HHB11.out (by decide) e))
                have hrbh : ¬ (rb = hb) := fun e => by omega
                have HROWR := hid (fun q (hq : q < xs.length) => (cell_old hk hrb11 hrbh _).trans (HROW11.out q hq))
                have hrbr : rb < wr.heap.size := Nat.lt_of_lt_of_le hrb11 hk.size
                have HKW : Hid (Keep0 w wr) := hid (keep_far11 HK11.out hk (fun k e => by have e' : k = hb := e; omega))
                clear hin hhb hk
                by_cases hlt : i < n
                · have him : i < ms.length := by rw [HLEN.out]; exact hlt
                  have hix : i < xs.length := by omega
                  have co := HOR.out.cell i
                  rw [ovrC_get ms i him, decide_eq_true (H7.out i him)] at co
                  have cz := HOR.out.lt
                  have cr := HROWR.out i hix
                  obtain ⟨gl, cc, hcl, _⟩ := HRR.out.cl i him hix
                  have hans := cl_Ans hcl
                  have hol := oC_le ms i
                  have hinv := HOI.out.inv i him
                  by_cases h1 : ms[i].fin = 1
                  · obtain ⟨hin2, hoc, hnK, hfree, hfl, hff⟩ := HIN.out.yes HOI.out hK.2 him h1
                    have hA : clAns (ms[i].cs [] []) = .agg #[i64 0, i64 (ms[i].n : Int), .bool false, i64 0] := by
                      have e1 : (ms[i].cs [] []).fin = 1 := h1
                      have e2 : (ms[i].cs [] []).n = ms[i].n := rfl
                      simp [clAns, e1, e2]
                    rw [hA] at hans
                    have HANS := hid hans
                    have HIN2 := hid hin2
                    have HOC := hid hoc
                    clear hans hin2 hoc hA h1 hcl
                    generalize ms[i].n = f at *
                    have HTK := hid (fun (w' : World) => ref_Ticket t s g l r (K : Int) PA P.length pc LA L.length lc (f : Int) w' hs.1 hs.2 (by omega) (by omega) (by omega))
                    rw [← HQ.out, show (q : Int) + 2 * (f : Int) = ((q + 2 * f : Nat) : Int) by push_cast; rfl] at HTK
                    have hpl : q + 2 * f < WW.length := by omega
                    have HST := hid (fun w' => ref10_State (rd WW (q + 2 * f)) w')
                    rw [hfree] at HST
                    clear hfree
                    generalize q + 2 * f = p at *
                    have g0 : decide ((f : Int) < 0) = false := decide_eq_false (by omega)
                    have g1 : decide ((K : Int) ≤ (f : Int)) = false := decide_eq_false (by omega)
                    have hf16 : f < 16 := by omega
                    generalize xs[i] = xk at *
                    go_wp2_with fail
                    refine HANS.out.mono ?_
                    rintro e w12 ⟨rfl, hk⟩
                    have co2 := (hk.blk HOR.out (fun h => h)).cell i
                    rw [ovrC_get ms i him, decide_eq_true (H7.out i him)] at co2
                    have cz2 := (hk.blk HOR.out (fun h => h)).lt
                    have HKX : Hid (Keep (fun b => b = hb) w11 w12) := hid (HKR.out.trans hk (fun _ _ h => h.elim))
                    have HHX := hid (hk.blk HHR.out (fun h => h))
                    have HBX := hid (hk.blk HBR.out (fun h => h))
                    have HGX := hid (hk.ints HGR.out (fun h => h))
                    have qbx := HBX.out.k8
                    have c1 := HHX.out.cell f
                    rw [bls_get hfl, hff] at c1
                    have c3 := HHX.out.lt
                    clear hk co cz cr
                    go_wp2_with fail
                    refine (HTK.out _).mono ?_
                    rintro e w13 ⟨rfl, hk⟩
                    have qw := (hk.ints (show Ints _ _ _ from HGX.out.alloc _) (fun h => h)).cell p hpl
                    have hzw := (hk.ints (show Ints _ _ _ from HGX.out.alloc _) (fun h => h)).lt
                    have HA13 := hid (hk.blk (show Blk (w12.alloc (.cells #[i64 0, i64 (f : Int), .bool false, i64 0] 40)) w12.heap.size 40 [i64 0, i64 (f : Int), .bool false, i64 0] from Blk.made rfl rfl) (fun h => h))
                    have qa13 := HA13.out.k4
                    have HKY : Hid (Keep (fun b => b = hb) w11 w13) := hid ((HKX.out.alloc (.cells #[i64 0, i64 (f : Int), .bool false, i64 0] 40)).trans hk (fun _ _ h => h.elim))
                    have HHY := hid (hk.blk (HHX.out.alloc (.cells #[i64 0, i64 (f : Int), .bool false, i64 0] 40)) (fun h => h))
                    clear hk co2 cz2 c1 c3 qbx
                    have c1 := HHY.out.cell f
                    rw [bls_get hfl, hff] at c1
                    have c2 := HHY.out.frozen f
                    have c3 := HHY.out.lt
                    go_wp2_with fail
                    refine (HST.out _).mono ?_
                    rintro e w14 ⟨rfl, rfl⟩
                    have y5 : IntKind.i64.wrap ((oC ms i : Int) + 1) = (oC ms i : Int) + 1 := IntWalk.i64_in _ (by omega)
                    generalize oC ms i = so at *
                    go_wp2_with fail
                    go_roundw
                    case rel => exact ⟨i + 1, H.set f true, by omega, by go_num, by rw [HOC.out]; go_num, HIN2.out, by rw [← bls_set]; exact HHY.out.set f _, HKY.out.set ⟨hb, f, none⟩ (.bool true) (fun _ => rfl)⟩
                    case measure => simp [intOf]; omega
                  · have hf2 : ms[i].fin = 2 := by have a1 := hinv.fb; have a2 : ms[i].fin ≤ 2 := a1; have a3 := H7.out i him; omega
                    obtain ⟨hin2, hoc⟩ := HIN.out.no him h1
                    have hz2 := hinv.z2 hf2
                    have hA : clAns (ms[i].cs [] []) = .agg #[i64 3, i64 0, .bool false, i64 0] := by
                      have e1 : (ms[i].cs [] []).fin = 2 := hf2
                      have e2 : (ms[i].cs [] []).n = 0 := hz2.2
                      simp [clAns, e1, e2]
                    rw [hA] at hans
                    have HANS := hid hans
                    have HIN2 := hid hin2
                    have HOC := hid hoc
                    clear hans hin2 hoc hA hz2 hf2 h1 hcl
                    generalize xs[i] = xk at *
                    go_wp2_with fail
                    refine HANS.out.mono ?_
                    rintro e w12 ⟨rfl, hk⟩
                    have co2 := (hk.blk HOR.out (fun h => h)).cell i
                    rw [ovrC_get ms i him, decide_eq_true (H7.out i him)] at co2
                    have cz2 := (hk.blk HOR.out (fun h => h)).lt
                    have HKX : Hid (Keep (fun b => b = hb) w11 w12) := hid (HKR.out.trans hk (fun _ _ h => h.elim))
                    have HHX := hid (hk.blk HHR.out (fun h => h))
                    clear hk co cz cr
                    go_wp2_with fail
                    go_roundw
                    case rel => exact ⟨i + 1, H, by omega, by go_num, by rw [HOC.out], HIN2.out, HHX.out.alloc _, HKX.out.alloc _⟩
                    case measure => simp [intOf]; omega
                · obtain rfl : n = i := by omega
                  have hen := (show HI11 K q WW ms ms.length H from by rw [HLEN.out]; exact HIN.out).end_ HOI.out (by rw [HLEN.out]; omega) H7.out
                  rw [HLEN.out, ← HFE.out] at hen
                  have hol := oC_le ms n
                  generalize oC ms n = so at *
                  clear HIN HFE
                  have g1 : decide ((so : Int) ≤ (F : Int)) = true := decide_eq_true (by omega)
                  rcases hen.2 with h0 | h0
                  · subst h0
                    go_wp2_with fail
                    go_ret
                    exact ⟨rfl, HKW.out⟩
                  · by_cases hz : F = 0
                    · exact absurd hen.1 (by omega)
                    · have g2 : ((F : Int) == 0) = false := by simpa using hz
                      have g3 : decide ((1 : Int) ≤ (so : Int)) = true := decide_eq_true (by omega)
                      go_wp2_with fail
                      go_ret
                      exact ⟨rfl, HKW.out⟩
end Go.Proofs.Ytjloccnbcgkmgaa
