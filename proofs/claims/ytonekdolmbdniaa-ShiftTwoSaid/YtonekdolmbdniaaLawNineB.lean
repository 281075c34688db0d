/- breadlinelaw09: pokes. -/
import Derived.Test.YtonekdolmbdniaaLawNine
import Derived.Test.YtonekdolmbdniaaLawEightC
namespace Go.Proofs.Ytonekdolmbdniaa
open Go.RowKit
set_option linter.unusedVariables false
set_option linter.unusedSimpArgs false
set_option maxRecDepth 100000

/-- a poke, turned to one of what is available, or of the limit -/
def poke9 (av li : Int) (p : Pk) : Pk := if p.w.tmod 2 = 0 then ⟨p.at_, av, (if p.x < 0 then 0 else p.x) % 4294967296⟩ else ⟨p.at_, li, (if p.x < 0 then 0 else p.x) % 4294967296⟩
set_option maxHeartbeats 2000000 in
theorem law9_pokes (t s g l r k : Int) (PA : Option Addr) (P : List Int) (pc : Nat) (LA : Option Addr) (L : List Int) (lc : Nat) (nd nn st avl : Int) (QA : Option Addr) (Q : List Int) (qc : Nat) (KA : Option Addr) (K : List Pk) (kc : Nat) (w : World) (hK : pksAt w KA K) (hR : Right t s g l r k P L) (h1 : 0 ≤ nd ∧ nd ≤ 255) (h2 : 0 ≤ nn ∧ nn ≤ 4294967295) (h3 : 0 ≤ st ∧ st ≤ 255) (hk : K.length ≤ 40) :
    Calls Try.prog 25 #[.agg #[i64 t, i64 s, i64 g, i64 l, i64 r, i64 k, .slice PA P.length pc, .slice LA L.length lc, .int .u8 nd, .int .u32 nn, .int .u8 st, .int .u32 avl, .slice QA Q.length qc, .slice KA K.length kc]] w fun e w' => ∃ A c', e = .returned (.slice A K.length c') ∧ pksAt w' A (K.map (poke9 ((nd % P.length) * (6 + 2 * s) + 1) ((nd % P.length) * (6 + 2 * s)))) ∧ Keep0 w w' ∧ (∀ b o, A = some ⟨b, o, none⟩ → w.heap.size ≤ b) := by
  obtain ⟨i0, hti, hz0, hz1, hz2⟩ := info_parts info_poke
  have HI := hid hti
  clear hti
  have hp := hR.p
  have hs := hR.sb
  have hl := hR.l
  have HOF := hid (fun (w' : World) => law8_Of t s g l r k PA P pc LA L lc nd nn st avl QA Q qc KA K kc w' ⟨hp.1, by omega⟩ hs h1 h2 h3)
  have hv0 := Int.emod_nonneg nd (show (P.length : Int) ≠ 0 by omega)
  have hv1 := Int.emod_lt_of_pos nd (show (0 : Int) < P.length by omega)
  have hu0 := Int.emod_nonneg st (show s ≠ 0 by omega)
  have hu1 := Int.emod_lt_of_pos st (show (0 : Int) < s by omega)
  generalize nd % (P.length : Int) = v at *
  generalize st % s = u at *
  have hv : 0 ≤ v ∧ v < P.length := ⟨hv0, hv1⟩
  have hu : 0 ≤ u ∧ u < s := ⟨hu0, hu1⟩
  have hm1 := mul_bd 12 22 hv0 (by omega) (show 0 ≤ 6 + 2 * s by omega) (by omega)
  generalize hF : poke9 (v * (6 + 2 * s) + 1) (v * (6 + 2 * s)) = F at *
  have HFD := hid hF.symm
  have HB : Hid (Blk (w.alloc (.cells #[i64 t, i64 s, i64 g, i64 l, i64 r, i64 k, .slice PA P.length pc, .slice LA L.length lc, .int .u8 nd, .int .u32 nn, .int .u8 st, .int .u32 avl, .slice QA Q.length qc, .slice KA K.length kc] 29)) w.heap.size 29 [i64 t, i64 s, i64 g, i64 l, i64 r, i64 k, .slice PA P.length pc, .slice LA L.length lc, .int .u8 nd, .int .u32 nn, .int .u8 st, .int .u32 avl, .slice QA Q.length qc, .slice KA K.length kc]) := hid (Blk.made rfl rfl)
  have HK0 : Hid (Keep0 w (w.alloc (.cells #[i64 t, i64 s, i64 g, i64 l, i64 r, i64 k, .slice PA P.length pc, .slice LA L.length lc, .int .u8 nd, .int .u32 nn, .int .u8 st, .int .u32 avl, .slice QA Q.length qc, .slice KA K.length kc] 29))) := hid ((Keep.refl _ _).alloc _)
  have qb := HB.out.k14
  have HKK := hid hK
  clear hK hR hF
  go_enter Try.func25, Try.ntmps25
  go_wp2_with fail
  refine (HOF.out _).mono ?_
  rintro e w1 ⟨rfl, hk1⟩
  have HB1 := hid (hk1.blk HB.out (fun h => h))
  have HK1 : Hid (Keep0 w w1) := hid (Keep0.step HK0.out hk1)
  clear hk1 HB HK0 qb
  go_wp2_with fail
  go_loopw [6, 7] (fun v6 v7 wr => ∃ j : Nat, j ≤ K.length ∧ v7 = .int .i64 j ∧ ∃ A1 c1, v6 = .slice A1 j c1 ∧ wr.ownsRow w.heap.size 71 3 (.slice A1 j c1) j (pksCells ((K.take j).map F)) ∧ Blk wr w.heap.size 29 [i64 t, i64 s, i64 g, i64 l, i64 r, i64 k, .slice PA P.length pc, .slice LA L.length lc, .int .u8 nd, .int .u32 nn, .int .u8 st, .int .u32 avl, .slice QA Q.length qc, .slice KA K.length kc] ∧ Keep0 w wr) (fun _ v _ => K.length - (intOf v).toNat)
  case atStart => exact ⟨0, Nat.zero_le _, rfl, none, 0, rfl, by simpa [pksCells] using World.ownsRow_nil _ _ _ _, HB1.out, HK1.out⟩
  case round =>
    obtain ⟨j, hj, rfl, A1, c1, rfl, ho, hb, hkr⟩ := hrel
    clear HB1 HK1
    have HO := hid ho
    have HBB := hid hb
    have HKR := hid hkr
    have qb := hb.k14
    clear ho hb hkr
    have HKO : Hid (Keep0 wr wr) := hid (Keep.refl _ _)
    have HCB := HBB
    have HKC := HKR
    by_cases hjl : j < K.length
    · obtain ⟨kb, ko, rfl, hkc⟩ := (HKK.out.keep HKR.out).cell (by omega)
      obtain ⟨d1, d2, d3⟩ := hkc j hjl
      have hkz := World.block_lt_of_cell? _ _ d1
      simp only at hkz
      have hkzs := lts hkz
      obtain ⟨pa, pw, px, hpk⟩ : ∃ pa pw px, K[j] = Pk.mk pa pw px := ⟨_, _, _, rfl⟩
      have HN := hid (show pksCells ((K.take (j + 1)).map F) = pksCells ((K.take j).map F) ++ (F ⟨pa, pw, px⟩).cells from by rw [List.take_succ_eq_append_getElem hjl, hpk, List.map_append, List.map_singleton, pksCells_snoc])
      rw [hpk] at d1 d2 d3
      simp only at d1 d2 d3
      clear hkc hpk
      by_cases hng : px < 0
      · by_cases hpb : pw.tmod 2 = 0
        · have HF := hid (show F ⟨pa, pw, px⟩ = ⟨pa, v * (6 + 2 * s) + 1, 0⟩ from by rw [HFD.out]; simp [poke9, hng, hpb])
          have y6 : max px 0 = 0 := by omega
          go_wp2_with fail
          have HPB := hid (Blk.made (b := wr.heap.size) (w := wr) (t := 71) (cs := [i64 pa, i64 pw, i64 px]) rfl rfl)
          have HBQ := hid (HBB.out.alloc (.cells #[i64 pa, i64 pw, i64 px] 71))
          have HKQ := hid (HKR.out.alloc (.cells #[i64 pa, i64 pw, i64 px] 71))
          have HOQ := hid (HO.out.alloc (.cells #[i64 pa, i64 pw, i64 px] 71))
          clear HO HBB HKR HCB HKC HKO qb d1 d2 d3
          generalize wr.alloc (.cells #[i64 pa, i64 pw, i64 px] 71) = wq at *
          have HO := HOQ
          have HBB := HBQ
          have HKR := HKQ
          have HCB := HBQ
          have HKC := HKQ
          have HKO : Hid (Keep0 wq wq) := hid (Keep.refl _ _)
          have qb := HBB.out.k14
          have qp := HPB.out.k3
          go_region_law (first
            | (refine step_append_own ?a1 (.tmp 36) (.tmp 45) 27 ?a2 (w.heap.size) 71 i0 ?z 3 24 ?a3 ?a4 ?a5 ?a6 ?a7 ?a8 ?a9 (.slice A1 j c1) (j) (pksCells ((K.take j).map F)) ?a10 ?hown (⟨w3.heap.size, 0, none⟩) (1) (1) ([i64 pa, i64 (v * (6 + 2 * s) + 1), i64 (0)]) ?a11 ?a12 ?hnews ?hone ?h63 ?hby ?hbase ?_; (case a1 => rfl); (case a2 => rfl); (case a3 => exact Try.underlying27); (case a4 => exact HI.out); (case a5 => exact hz0); (case a6 => exact hz1); (case a7 => exact hz2); (case a8 => rfl); (case a9 => decide); (case a10 => rfl); (case a11 => rfl); (case a12 => rfl); (case hown => exact ownsRow_keep (S := fun _ => False) HO.out (by repeat (first | exact Keep.refl _ _ | exact HKO.out | apply Keep.drew | apply Keep.alloc)) (fun _ _ h => h)); (case h63 => unfold maxLen; omega); (case hby => omega); (case hnews => exact news_at (by repeat (first | exact Blk.made (by simp) rfl | apply Blk.drew))); (case hone => simp [Value.oneCell']); (case hbase => have := HCB.out.lt; simp; omega); intro A9 c9 w9 hown9 hg9 hsl9; have T := grown_blk hg9 (by repeat (first | exact HCB.out | apply Blk.drew | apply Blk.alloc)) (ownBlock_ne HO.out HBB.out (by decide)); have HC9 := hid T; have HO9 := hid hown9; have HK9 : Hid (Keep0 w w9) := hid (Keep.grown (by repeat (first | exact HKC.out | apply Keep.drew | apply Keep.alloc)) hg9 (fun k hk e => by have := (HO.out.lt k e).1; omega)); clear hown9 hg9 hsl9 T)
            | (go_simp; go_at_call 17; refine (ref_Avail t s g l r k PA P.length pc LA L.length lc v _ hs.1 hs.2 hv.1 (by omega)).mono ?_; rintro e w3 ⟨rfl, hk⟩; have T := hid (hk.blk (by repeat (first | exact HBB.out | apply Blk.drew | apply Blk.alloc)) (fun h => h)); have HKO2 : Hid (Keep0 wq w3) := hid (Keep0.step (by repeat (first | exact HKO.out | apply Keep.drew | apply Keep.alloc)) hk); have HKC2 := hid (Keep0.step HKR.out HKO2.out); have qb2 := T.out.k14; have T2 := hid (hk.blk (by repeat (first | exact HPB.out | apply Blk.drew | apply Blk.alloc)) (fun h => h)); have qp2 := T2.out.k3; clear T2; clear HCB HKO HKC hk; have HCB := T; have HKO := HKO2; have HKC := HKC2; clear T HKO2 HKC2))
          all_goals
            have HO2 := hid (show w9.ownsRow w.heap.size 71 3 (.slice A9 (j + 1) c9) (j + 1) (pksCells ((K.take (j + 1)).map F)) from by have h := HO9.out; rw [HN.out, HF.out]; exact h)
            go_wp2_with fail
            go_roundw
            case rel => exact ⟨j + 1, by omega, by go_num, A9, c9, rfl, HO2.out, HC9.out, HK9.out⟩
            case measure => simp [intOf]; omega
        · have HF := hid (show F ⟨pa, pw, px⟩ = ⟨pa, v * (6 + 2 * s), 0⟩ from by rw [HFD.out]; simp [poke9, hng, hpb])
          have y6 : max px 0 = 0 := by omega
          go_wp2_with fail
          have HPB := hid (Blk.made (b := wr.heap.size) (w := wr) (t := 71) (cs := [i64 pa, i64 pw, i64 px]) rfl rfl)
          have HBQ := hid (HBB.out.alloc (.cells #[i64 pa, i64 pw, i64 px] 71))
          have HKQ := hid (HKR.out.alloc (.cells #[i64 pa, i64 pw, i64 px] 71))
          have HOQ := hid (HO.out.alloc (.cells #[i64 pa, i64 pw, i64 px] 71))
          clear HO HBB HKR HCB HKC HKO qb d1 d2 d3
          generalize wr.alloc (.cells #[i64 pa, i64 pw, i64 px] 71) = wq at *
          have HO := HOQ
          have HBB := HBQ
          have HKR := HKQ
          have HCB := HBQ
          have HKC := HKQ
          have HKO : Hid (Keep0 wq wq) := hid (Keep.refl _ _)
          have qb := HBB.out.k14
          have qp := HPB.out.k3
          go_region_law (first
            | (refine step_append_own ?a1 (.tmp 47) (.tmp 56) 27 ?a2 (w.heap.size) 71 i0 ?z 3 24 ?a3 ?a4 ?a5 ?a6 ?a7 ?a8 ?a9 (.slice A1 j c1) (j) (pksCells ((K.take j).map F)) ?a10 ?hown (⟨w3.heap.size, 0, none⟩) (1) (1) ([i64 pa, i64 (v * (6 + 2 * s)), i64 (0)]) ?a11 ?a12 ?hnews ?hone ?h63 ?hby ?hbase ?_; (case a1 => rfl); (case a2 => rfl); (case a3 => exact Try.underlying27); (case a4 => exact HI.out); (case a5 => exact hz0); (case a6 => exact hz1); (case a7 => exact hz2); (case a8 => rfl); (case a9 => decide); (case a10 => rfl); (case a11 => rfl); (case a12 => rfl); (case hown => exact ownsRow_keep (S := fun _ => False) HO.out (by repeat (first | exact Keep.refl _ _ | exact HKO.out | apply Keep.drew | apply Keep.alloc)) (fun _ _ h => h)); (case h63 => unfold maxLen; omega); (case hby => omega); (case hnews => exact news_at (by repeat (first | exact Blk.made (by simp) rfl | apply Blk.drew))); (case hone => simp [Value.oneCell']); (case hbase => have := HCB.out.lt; simp; omega); intro A9 c9 w9 hown9 hg9 hsl9; have T := grown_blk hg9 (by repeat (first | exact HCB.out | apply Blk.drew | apply Blk.alloc)) (ownBlock_ne HO.out HBB.out (by decide)); have HC9 := hid T; have HO9 := hid hown9; have HK9 : Hid (Keep0 w w9) := hid (Keep.grown (by repeat (first | exact HKC.out | apply Keep.drew | apply Keep.alloc)) hg9 (fun k hk e => by have := (HO.out.lt k e).1; omega)); clear hown9 hg9 hsl9 T)
            | (go_simp; go_at_call 16; refine (ref_Limit t s g l r k PA P.length pc LA L.length lc v _ hs.1 hs.2 hv.1 (by omega)).mono ?_; rintro e w3 ⟨rfl, hk⟩; have T := hid (hk.blk (by repeat (first | exact HBB.out | apply Blk.drew | apply Blk.alloc)) (fun h => h)); have HKO2 : Hid (Keep0 wq w3) := hid (Keep0.step (by repeat (first | exact HKO.out | apply Keep.drew | apply Keep.alloc)) hk); have HKC2 := hid (Keep0.step HKR.out HKO2.out); have qb2 := T.out.k14; have T2 := hid (hk.blk (by repeat (first | exact HPB.out | apply Blk.drew | apply Blk.alloc)) (fun h => h)); have qp2 := T2.out.k3; clear T2; clear HCB HKO HKC hk; have HCB := T; have HKO := HKO2; have HKC := HKC2; clear T HKO2 HKC2))
          all_goals
            have HO2 := hid (show w9.ownsRow w.heap.size 71 3 (.slice A9 (j + 1) c9) (j + 1) (pksCells ((K.take (j + 1)).map F)) from by have h := HO9.out; rw [HN.out, HF.out]; exact h)
            go_wp2_with fail
            go_roundw
            case rel => exact ⟨j + 1, by omega, by go_num, A9, c9, rfl, HO2.out, HC9.out, HK9.out⟩
            case measure => simp [intOf]; omega
      · by_cases hpb : pw.tmod 2 = 0
        · have HF := hid (show F ⟨pa, pw, px⟩ = ⟨pa, v * (6 + 2 * s) + 1, px % 4294967296⟩ from by rw [HFD.out]; simp [poke9, hng, hpb])
          have y6 : max px 0 = px := by omega
          have y5 : px.tmod 4294967296 = px % 4294967296 := Int.tmod_eq_emod_of_nonneg (by omega)
          go_wp2_with fail
          have HPB := hid (Blk.made (b := wr.heap.size) (w := wr) (t := 71) (cs := [i64 pa, i64 pw, i64 px]) rfl rfl)
          have HBQ := hid (HBB.out.alloc (.cells #[i64 pa, i64 pw, i64 px] 71))
          have HKQ := hid (HKR.out.alloc (.cells #[i64 pa, i64 pw, i64 px] 71))
          have HOQ := hid (HO.out.alloc (.cells #[i64 pa, i64 pw, i64 px] 71))
          clear HO HBB HKR HCB HKC HKO qb d1 d2 d3
          generalize wr.alloc (.cells #[i64 pa, i64 pw, i64 px] 71) = wq at *
          have HO := HOQ
          have HBB := HBQ
          have HKR := HKQ
          have HCB := HBQ
          have HKC := HKQ
          have HKO : Hid (Keep0 wq wq) := hid (Keep.refl _ _)
          have qb := HBB.out.k14
          have qp := HPB.out.k3
          go_region_law (first
            | (refine step_append_own ?a1 (.tmp 36) (.tmp 45) 27 ?a2 (w.heap.size) 71 i0 ?z 3 24 ?a3 ?a4 ?a5 ?a6 ?a7 ?a8 ?a9 (.slice A1 j c1) (j) (pksCells ((K.take j).map F)) ?a10 ?hown (⟨w3.heap.size, 0, none⟩) (1) (1) ([i64 pa, i64 (v * (6 + 2 * s) + 1), i64 (px % 4294967296)]) ?a11 ?a12 ?hnews ?hone ?h63 ?hby ?hbase ?_; (case a1 => rfl); (case a2 => rfl); (case a3 => exact Try.underlying27); (case a4 => exact HI.out); (case a5 => exact hz0); (case a6 => exact hz1); (case a7 => exact hz2); (case a8 => rfl); (case a9 => decide); (case a10 => rfl); (case a11 => rfl); (case a12 => rfl); (case hown => exact ownsRow_keep (S := fun _ => False) HO.out (by repeat (first | exact Keep.refl _ _ | exact HKO.out | apply Keep.drew | apply Keep.alloc)) (fun _ _ h => h)); (case h63 => unfold maxLen; omega); (case hby => omega); (case hnews => exact news_at (by repeat (first | exact Blk.made (by simp) rfl | apply Blk.drew))); (case hone => simp [Value.oneCell']); (case hbase => have := HCB.out.lt; simp; omega); intro A9 c9 w9 hown9 hg9 hsl9; have T := grown_blk hg9 (by repeat (first | exact HCB.out | apply Blk.drew | apply Blk.alloc)) (ownBlock_ne HO.out HBB.out (by decide)); have HC9 := hid T; have HO9 := hid hown9; have HK9 : Hid (Keep0 w w9) := hid (Keep.grown (by repeat (first | exact HKC.out | apply Keep.drew | apply Keep.alloc)) hg9 (fun k hk e => by have := (HO.out.lt k e).1; omega)); clear hown9 hg9 hsl9 T)
            | (go_simp; go_at_call 17; refine (ref_Avail t s g l r k PA P.length pc LA L.length lc v _ hs.1 hs.2 hv.1 (by omega)).mono ?_; rintro e w3 ⟨rfl, hk⟩; have T := hid (hk.blk (by repeat (first | exact HBB.out | apply Blk.drew | apply Blk.alloc)) (fun h => h)); have HKO2 : Hid (Keep0 wq w3) := hid (Keep0.step (by repeat (first | exact HKO.out | apply Keep.drew | apply Keep.alloc)) hk); have HKC2 := hid (Keep0.step HKR.out HKO2.out); have qb2 := T.out.k14; have T2 := hid (hk.blk (by repeat (first | exact HPB.out | apply Blk.drew | apply Blk.alloc)) (fun h => h)); have qp2 := T2.out.k3; clear T2; clear HCB HKO HKC hk; have HCB := T; have HKO := HKO2; have HKC := HKC2; clear T HKO2 HKC2))
          all_goals
            have HO2 := hid (show w9.ownsRow w.heap.size 71 3 (.slice A9 (j + 1) c9) (j + 1) (pksCells ((K.take (j + 1)).map F)) from by have h := HO9.out; rw [HN.out, HF.out]; exact h)
            go_wp2_with fail
            go_roundw
            case rel => exact ⟨j + 1, by omega, by go_num, A9, c9, rfl, HO2.out, HC9.out, HK9.out⟩
            case measure => simp [intOf]; omega
        · have HF := hid (show F ⟨pa, pw, px⟩ = ⟨pa, v * (6 + 2 * s), px % 4294967296⟩ from by rw [HFD.out]; simp [poke9, hng, hpb])
          have y6 : max px 0 = px := by omega
          have y5 : px.tmod 4294967296 = px % 4294967296 := Int.tmod_eq_emod_of_nonneg (by omega)
          go_wp2_with fail
          have HPB := hid (Blk.made (b := wr.heap.size) (w := wr) (t := 71) (cs := [i64 pa, i64 pw, i64 px]) rfl rfl)
          have HBQ := hid (HBB.out.alloc (.cells #[i64 pa, i64 pw, i64 px] 71))
          have HKQ := hid (HKR.out.alloc (.cells #[i64 pa, i64 pw, i64 px] 71))
          have HOQ := hid (HO.out.alloc (.cells #[i64 pa, i64 pw, i64 px] 71))
          clear HO HBB HKR HCB HKC HKO qb d1 d2 d3
          generalize wr.alloc (.cells #[i64 pa, i64 pw, i64 px] 71) = wq at *
          have HO := HOQ
          have HBB := HBQ
          have HKR := HKQ
          have HCB := HBQ
          have HKC := HKQ
          have HKO : Hid (Keep0 wq wq) := hid (Keep.refl _ _)
          have qb := HBB.out.k14
          have qp := HPB.out.k3
          go_region_law (first
            | (refine step_append_own ?a1 (.tmp 47) (.tmp 56) 27 ?a2 (w.heap.size) 71 i0 ?z 3 24 ?a3 ?a4 ?a5 ?a6 ?a7 ?a8 ?a9 (.slice A1 j c1) (j) (pksCells ((K.take j).map F)) ?a10 ?hown (⟨w3.heap.size, 0, none⟩) (1) (1) ([i64 pa, i64 (v * (6 + 2 * s)), i64 (px % 4294967296)]) ?a11 ?a12 ?hnews ?hone ?h63 ?hby ?hbase ?_; (case a1 => rfl); (case a2 => rfl); (case a3 => exact Try.underlying27); (case a4 => exact HI.out); (case a5 => exact hz0); (case a6 => exact hz1); (case a7 => exact hz2); (case a8 => rfl); (case a9 => decide); (case a10 => rfl); (case a11 => rfl); (case a12 => rfl); (case hown => exact ownsRow_keep (S := fun _ => False) HO.out (by repeat (first | exact Keep.refl _ _ | exact HKO.out | apply Keep.drew | apply Keep.alloc)) (fun _ _ h => h)); (case h63 => unfold maxLen; omega); (case hby => omega); (case hnews => exact news_at (by repeat (first | exact Blk.made (by simp) rfl | apply Blk.drew))); (case hone => simp [Value.oneCell']); (case hbase => have := HCB.out.lt; simp; omega); intro A9 c9 w9 hown9 hg9 hsl9; have T := grown_blk hg9 (by repeat (first | exact HCB.out | apply Blk.drew | apply Blk.alloc)) (ownBlock_ne HO.out HBB.out (by decide)); have HC9 := hid T; have HO9 := hid hown9; have HK9 : Hid (Keep0 w w9) := hid (Keep.grown (by repeat (first | exact HKC.out | apply Keep.drew | apply Keep.alloc)) hg9 (fun k hk e => by have := (HO.out.lt k e).1; omega)); clear hown9 hg9 hsl9 T)
            | (go_simp; go_at_call 16; refine (ref_Limit t s g l r k PA P.length pc LA L.length lc v _ hs.1 hs.2 hv.1 (by omega)).mono ?_; rintro e w3 ⟨rfl, hk⟩; have T := hid (hk.blk (by repeat (first | exact HBB.out | apply Blk.drew | apply Blk.alloc)) (fun h => h)); have HKO2 : Hid (Keep0 wq w3) := hid (Keep0.step (by repeat (first | exact HKO.out | apply Keep.drew | apply Keep.alloc)) hk); have HKC2 := hid (Keep0.step HKR.out HKO2.out); have qb2 := T.out.k14; have T2 := hid (hk.blk (by repeat (first | exact HPB.out | apply Blk.drew | apply Blk.alloc)) (fun h => h)); have qp2 := T2.out.k3; clear T2; clear HCB HKO HKC hk; have HCB := T; have HKO := HKO2; have HKC := HKC2; clear T HKO2 HKC2))
          all_goals
            have HO2 := hid (show w9.ownsRow w.heap.size 71 3 (.slice A9 (j + 1) c9) (j + 1) (pksCells ((K.take (j + 1)).map F)) from by have h := HO9.out; rw [HN.out, HF.out]; exact h)
            go_wp2_with fail
            go_roundw
            case rel => exact ⟨j + 1, by omega, by go_num, A9, c9, rfl, HO2.out, HC9.out, HK9.out⟩
            case measure => simp [intOf]; omega
    · obtain rfl : K.length = j := by omega
      have ho := HO.out
      rw [List.take_of_length_le (Nat.le_refl _)] at ho
      have HP := hid (pks_of_row ho (by simp))
      have HLT := hid (fun b o (e : A1 = some ⟨b, o, none⟩) => (ho.lt b (by rw [e]; rfl)).1)
      clear ho
      go_wp2_with fail
      go_ret
      exact ⟨A1, c1, rfl, HP.out, HKR.out, HLT.out⟩
end Go.Proofs.Ytonekdolmbdniaa
