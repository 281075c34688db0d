/- breadlinelaw06: Poked. -/
import Derived.Test.YtchlmaphaeoplaaRefOne
import Derived.Test.YtchlmaphaeoplaaPks
import Derived.Test.YtchlmaphaeoplaaLawSixB
namespace Go.Proofs.Ytchlmaphaeoplaa
open Go.RowKit
set_option linter.unusedVariables false
set_option linter.unusedSimpArgs false
set_option maxRecDepth 100000
/-- a poke of a counter's words, turned to what may be -/
def fp6 (b s : Nat) (g l : Int) (p : Pk) : Option Pk :=
  if p.w < 0 ∨ (b : Int) + 4 + s ≤ p.w then none else if p.w = (b : Int) + 3 then some ⟨p.at_, p.w, l⟩ else if (b : Int) + 4 ≤ p.w then some ⟨p.at_, p.w, pNext6 p.x ((pVal p.x).tmod g)⟩ else some p
def poked6 (b s : Nat) (g l : Int) (K : List Pk) : List Pk := K.filterMap (fp6 b s g l)
theorem poked6_snoc (b s : Nat) (g l : Int) (K : List Pk) (j : Nat) (hj : j < K.length) : poked6 b s g l (K.take (j + 1)) = poked6 b s g l (K.take j) ++ (fp6 b s g l K[j]).toList := by
  unfold poked6
  rw [List.take_succ_eq_append_getElem hj, List.filterMap_append]
  cases h : fp6 b s g l K[j] <;> simp [h]
set_option maxHeartbeats 2000000 in
theorem law6_Poked (ba sr ga gl li : Int) (VA : Option Addr) (V : List Int) (vc : Nat) (UA : Option Addr) (U : List Int) (uc : Nat) (KA : Option Addr) (K : List Pk) (kc : Nat) (w : World) (b s g l : Nat) (h0 : 0 ≤ ba ∧ ba ≤ 255) (h1 : 0 ≤ sr ∧ sr ≤ 255) (h2 : 0 ≤ ga ∧ ga ≤ 65535) (h4 : 0 ≤ li ∧ li ≤ 255)
    (hb : (b : Int) = ba % 8) (hs : (s : Int) = sz4 sr) (hg : (g : Int) = ga % 40 + 1) (hl : (l : Int) = min (sz4 li) (sz4 sr)) (hK : pksAt w KA K) (hk40 : K.length ≤ 40) :
    Calls Try.prog 19 #[.agg #[.int .u8 ba, .int .u8 sr, .int .u16 ga, .int .i32 gl, .int .u8 li, .slice VA V.length vc, .slice UA U.length uc], .slice KA K.length kc] w fun e w' => ∃ A c', e = .returned (.slice A (poked6 b s g l K).length c') ∧ pksAt w' A (poked6 b s g l K) ∧ Keep0 w w' ∧ (∀ b o, A = some ⟨b, o, none⟩ → w.heap.size ≤ b) := by
  obtain ⟨i0, hti, hz0, hz1, hz2⟩ := info_parts info_poke
  have HI := hid hti
  clear hti
  have HS := hid (fun w' => law6_Size ba sr ga gl li VA V.length vc UA U.length uc w' h0 h1 h2 h4)
  rw [← hl, ← hb, ← hs, ← hg] at HS
  have hsb := sz4_bd sr
  have hbb : b ≤ 7 := by omega
  have hss : 1 ≤ s ∧ s ≤ 8 := by omega
  have hgg : 1 ≤ g ∧ g ≤ 40 := by omega
  have HK0 : Hid (Keep0 w (w.alloc (.cells #[.int .u8 ba, .int .u8 sr, .int .u16 ga, .int .i32 gl, .int .u8 li, .slice VA V.length vc, .slice UA U.length uc] 26))) := hid ((Keep.refl _ _).alloc _)
  have HKK := hid hK
  clear hb hs hg hl h0 h1 h2 h4 hK
  go_enter Try.func19, Try.ntmps19
  go_wp2_with fail
  have HB0 : Hid (Blk (w.alloc (.cells #[.int .u8 ba, .int .u8 sr, .int .u16 ga, .int .i32 gl, .int .u8 li, .slice VA V.length vc, .slice UA U.length uc] 26)) w.heap.size 26 [.int .u8 ba, .int .u8 sr, .int .u16 ga, .int .i32 gl, .int .u8 li, .slice VA V.length vc, .slice UA U.length uc]) := hid (Blk.made rfl rfl)
  refine (HS.out _).mono ?_
  rintro e w1 ⟨rfl, hk⟩
  have HK1 : Hid (Keep0 w w1) := hid (HK0.out.trans hk (fun _ _ h => h))
  have HB1 := hid (hk.blk HB0.out (fun h => h))
  clear hk HK0 HB0
  go_wp2_with fail
  go_loopw [9, 10] (fun v9 v10 wr => ∃ j : Nat, j ≤ K.length ∧ v10 = .int .i64 j ∧ ∃ A1 c1, v9 = .slice A1 (poked6 b s g l (K.take j)).length c1 ∧ wr.ownsRow w.heap.size 66 3 (.slice A1 (poked6 b s g l (K.take j)).length c1) (poked6 b s g l (K.take j)).length (pksCells (poked6 b s g l (K.take j))) ∧ Blk wr w.heap.size 26 [.int .u8 ba, .int .u8 sr, .int .u16 ga, .int .i32 gl, .int .u8 li, .slice VA V.length vc, .slice UA U.length uc] ∧ Keep0 w wr) (fun _ v _ => K.length - (intOf v).toNat)
  case atStart => exact ⟨0, Nat.zero_le _, rfl, none, 0, rfl, by simpa [pksCells, poked6] using World.ownsRow_nil _ _ _ _, HB1.out, HK1.out⟩
  case round =>
    obtain ⟨j, hj, rfl, A1, c1, rfl, ho, hb, hkr⟩ := hrel
    clear HB1 HK1
    have HO := hid ho
    have HBB := hid hb
    have HKR := hid hkr
    clear ho hb hkr
    by_cases hjl : j < K.length
    · obtain ⟨kb, ko, rfl, hkc⟩ := (HKK.out.keep HKR.out).cell (by omega)
      obtain ⟨d1, d2, d3⟩ := hkc j hjl
      have hkz := World.block_lt_of_cell? _ _ d1
      simp only at hkz
      have hkzs := lts hkz
      have hsn := poked6_snoc b s g l K j hjl
      obtain ⟨pa, pw, px, hpk⟩ : ∃ pa pw px, K[j] = Pk.mk pa pw px := ⟨_, _, _, rfl⟩
      rw [hpk] at d1 d2 d3 hsn
      simp only at d1 d2 d3
      have HSN := hid hsn
      clear hkc hpk hsn
      have hpl : (poked6 b s g l (K.take j)).length ≤ 40 := by
        have h1 := List.length_filterMap_le (fp6 b s g l) (K.take j)
        rw [List.length_take] at h1
        unfold poked6
        omega
      generalize poked6 b s g l (K.take j) = PJ at *
      by_cases hlo : pw < 0
      · have hfp : fp6 b s g l ⟨pa, pw, px⟩ = none := by simp [fp6, hlo]
        have HF := hid hfp
        clear hfp
        go_wp2_with fail
        go_roundw
        case rel => exact ⟨j + 1, by omega, by go_num, A1, c1, by rw [HSN.out, HF.out]; simp, by rw [HSN.out, HF.out]; simpa using HO.out.alloc _, HBB.out.alloc _, HKR.out.alloc _⟩
        case measure => simp [intOf]; omega
      · by_cases hhi : (b : Int) + 4 + s ≤ pw
        · have hfp : fp6 b s g l ⟨pa, pw, px⟩ = none := by simp [fp6, hhi]
          have HF := hid hfp
          clear hfp
          go_wp2_with fail
          go_roundw
          case rel => exact ⟨j + 1, by omega, by go_num, A1, c1, by rw [HSN.out, HF.out]; simp, by rw [HSN.out, HF.out]; simpa using HO.out.alloc _, HBB.out.alloc _, HKR.out.alloc _⟩
          case measure => simp [intOf]; omega
        · by_cases hlv : pw = (b : Int) + 3
          · have hfp : fp6 b s g l ⟨pa, pw, px⟩ = some ⟨pa, pw, l⟩ := by simp [fp6, hlo, hhi, hlv]; omega
            have HF := hid hfp
            have hlt2 : ¬ (b : Int) + 4 ≤ pw := by omega
            have hlb : (pw == (b : Int) + 3) = true := by simpa using hlv
            clear hfp hlv
            go_wp2_with (at_builtin; refine wpl_append_own ?a1 (.tmp 65) (.tmp 67) 47 ?a2 (w.heap.size) 66 i0 ?z 3 24 ?a3 ?a4 ?a5 ?a6 ?a7 ?a8 ?a9 (.slice A1 PJ.length c1) (PJ.length) (pksCells PJ) ?a10 ?hown (⟨wr.heap.size + 1, 0, none⟩) (1) (1) ([i64 pa, i64 pw, i64 ((l : Int))]) ?a11 ?a12 ?hnews ?hone ?h63 ?hby ?hbase ?_; (case a1 => rfl); (case a2 => rfl); (case a3 => exact Try.underlying47); (case a4 => exact HI.out); (case a5 => exact hz0); (case a6 => exact hz1); (case a7 => exact hz2); (case a8 => rfl); (case a9 => decide); (case a10 => rfl); (case a11 => rfl); (case a12 => rfl); (case hown => exact ownsRow_keep (S := fun _ => False) HO.out (by repeat (first | exact Keep.refl _ _ | apply Keep.drew | apply Keep.alloc)) (fun _ _ h => h)); (case h63 => unfold maxLen; omega); (case hby => omega); (case hnews => exact news_at (Blk.made (by simp) rfl)); (case hone => simp [Value.oneCell']); (case hbase => have := HBB.out.lt; simp; omega); intro A9 c9 w9 hown9 hg9 hsl9; have T := grown_blk hg9 (by repeat (first | exact HBB.out | apply Blk.drew | apply Blk.alloc)) (ownBlock_ne HO.out HBB.out (by decide)); have HC9 := hid T; have HO9 := hid hown9; have HK9 : Hid (Keep0 w w9) := hid (Keep.grown (by repeat (first | exact HKR.out | apply Keep.drew | apply Keep.alloc)) hg9 (fun k hk e => by have := (HO.out.lt k e).1; omega)); clear hown9 hg9 hsl9 T)
            have hln : (poked6 b s g l (K.take (j + 1))).length = PJ.length + 1 := by rw [HSN.out, HF.out]; simp
            have HLN := hid hln
            clear hln
            have HO2 := hid (show w9.ownsRow w.heap.size 66 3 (.slice A9 (PJ.length + 1) c9) (PJ.length + 1) (pksCells (poked6 b s g l (K.take (j + 1)))) from by have h := HO9.out; rw [HSN.out, HF.out]; simpa [pksCells, Pk.cells] using h)
            go_wp2_with fail
            go_roundw
            case rel => exact ⟨j + 1, by omega, by go_num, A9, c9, by rw [HLN.out], by rw [HLN.out]; exact HO2.out, HC9.out, HK9.out⟩
            case measure => simp [intOf]; omega
          · by_cases hst : (b : Int) + 4 ≤ pw
            · have hfp : fp6 b s g l ⟨pa, pw, px⟩ = some ⟨pa, pw, pNext6 px ((pVal px).tmod g)⟩ := by simp [fp6, hlo, hhi, hlv, hst]
              have HF := hid hfp
              clear hfp
              have htb := tmod_bd (pVal px) (g : Int) (by omega)
              have hgz : ¬ g = 0 := by omega
              have yv : IntKind.i64.wrap ((pVal px).tmod g) = (pVal px).tmod g := IntWalk.i64_in _ (by omega)
              have HV := hid (fun (w' : World) => ref1_Value px w')
              have HN := hid (fun (w' : World) => ref1_Next px ((pVal px).tmod g) w' (by omega))
              generalize pNext6 px ((pVal px).tmod g) = pn at *
              generalize (pVal px) = pv at *
              go_wp2_with fail
              go_region_law (first
                | (go_simp; go_at_call 28; refine (HV.out _).mono ?_; rintro e w3 ⟨rfl, rfl⟩)
                | (go_simp; go_at_call 36; refine (HN.out _).mono ?_; rintro e w3 ⟨rfl, rfl⟩))
              all_goals
                go_wp2_with (at_builtin; refine wpl_append_own ?a1 (.tmp 65) (.tmp 67) 47 ?a2 (w.heap.size) 66 i0 ?z 3 24 ?a3 ?a4 ?a5 ?a6 ?a7 ?a8 ?a9 (.slice A1 PJ.length c1) (PJ.length) (pksCells PJ) ?a10 ?hown (⟨wr.heap.size + 1, 0, none⟩) (1) (1) ([i64 pa, i64 pw, i64 (pn)]) ?a11 ?a12 ?hnews ?hone ?h63 ?hby ?hbase ?_; (case a1 => rfl); (case a2 => rfl); (case a3 => exact Try.underlying47); (case a4 => exact HI.out); (case a5 => exact hz0); (case a6 => exact hz1); (case a7 => exact hz2); (case a8 => rfl); (case a9 => decide); (case a10 => rfl); (case a11 => rfl); (case a12 => rfl); (case hown => exact ownsRow_keep (S := fun _ => False) HO.out (by repeat (first | exact Keep.refl _ _ | apply Keep.drew | apply Keep.alloc)) (fun _ _ h => h)); (case h63 => unfold maxLen; omega); (case hby => omega); (case hnews => exact news_at (Blk.made (by simp) rfl)); (case hone => simp [Value.oneCell']); (case hbase => have := HBB.out.lt; simp; omega); intro A9 c9 w9 hown9 hg9 hsl9; have T := grown_blk hg9 (by repeat (first | exact HBB.out | apply Blk.drew | apply Blk.alloc)) (ownBlock_ne HO.out HBB.out (by decide)); have HC9 := hid T; have HO9 := hid hown9; have HK9 : Hid (Keep0 w w9) := hid (Keep.grown (by repeat (first | exact HKR.out | apply Keep.drew | apply Keep.alloc)) hg9 (fun k hk e => by have := (HO.out.lt k e).1; omega)); clear hown9 hg9 hsl9 T)
                have hln : (poked6 b s g l (K.take (j + 1))).length = PJ.length + 1 := by rw [HSN.out, HF.out]; simp
                have HLN := hid hln
                clear hln
                have HO2 := hid (show w9.ownsRow w.heap.size 66 3 (.slice A9 (PJ.length + 1) c9) (PJ.length + 1) (pksCells (poked6 b s g l (K.take (j + 1)))) from by have h := HO9.out; rw [HSN.out, HF.out]; simpa [pksCells, Pk.cells] using h)
                go_wp2_with fail
                go_roundw
                case rel => exact ⟨j + 1, by omega, by go_num, A9, c9, by rw [HLN.out], by rw [HLN.out]; exact HO2.out, HC9.out, HK9.out⟩
                case measure => simp [intOf]; omega
            · have hfp : fp6 b s g l ⟨pa, pw, px⟩ = some ⟨pa, pw, px⟩ := by simp [fp6, hlo, hhi, hlv, hst]
              have HF := hid hfp
              clear hfp
              go_wp2_with (at_builtin; refine wpl_append_own ?a1 (.tmp 65) (.tmp 67) 47 ?a2 (w.heap.size) 66 i0 ?z 3 24 ?a3 ?a4 ?a5 ?a6 ?a7 ?a8 ?a9 (.slice A1 PJ.length c1) (PJ.length) (pksCells PJ) ?a10 ?hown (⟨wr.heap.size + 1, 0, none⟩) (1) (1) ([i64 pa, i64 pw, i64 (px)]) ?a11 ?a12 ?hnews ?hone ?h63 ?hby ?hbase ?_; (case a1 => rfl); (case a2 => rfl); (case a3 => exact Try.underlying47); (case a4 => exact HI.out); (case a5 => exact hz0); (case a6 => exact hz1); (case a7 => exact hz2); (case a8 => rfl); (case a9 => decide); (case a10 => rfl); (case a11 => rfl); (case a12 => rfl); (case hown => exact ownsRow_keep (S := fun _ => False) HO.out (by repeat (first | exact Keep.refl _ _ | apply Keep.drew | apply Keep.alloc)) (fun _ _ h => h)); (case h63 => unfold maxLen; omega); (case hby => omega); (case hnews => exact news_at (Blk.made (by simp) rfl)); (case hone => simp [Value.oneCell']); (case hbase => have := HBB.out.lt; simp; omega); intro A9 c9 w9 hown9 hg9 hsl9; have T := grown_blk hg9 (by repeat (first | exact HBB.out | apply Blk.drew | apply Blk.alloc)) (ownBlock_ne HO.out HBB.out (by decide)); have HC9 := hid T; have HO9 := hid hown9; have HK9 : Hid (Keep0 w w9) := hid (Keep.grown (by repeat (first | exact HKR.out | apply Keep.drew | apply Keep.alloc)) hg9 (fun k hk e => by have := (HO.out.lt k e).1; omega)); clear hown9 hg9 hsl9 T)
              have hln : (poked6 b s g l (K.take (j + 1))).length = PJ.length + 1 := by rw [HSN.out, HF.out]; simp
              have HLN := hid hln
              clear hln
              have HO2 := hid (show w9.ownsRow w.heap.size 66 3 (.slice A9 (PJ.length + 1) c9) (PJ.length + 1) (pksCells (poked6 b s g l (K.take (j + 1)))) from by have h := HO9.out; rw [HSN.out, HF.out]; simpa [pksCells, Pk.cells] using h)
              go_wp2_with fail
              go_roundw
              case rel => exact ⟨j + 1, by omega, by go_num, A9, c9, by rw [HLN.out], by rw [HLN.out]; exact HO2.out, HC9.out, HK9.out⟩
              case measure => simp [intOf]; omega
    · obtain rfl : K.length = j := by omega
      have ho := HO.out
      rw [List.take_of_length_le (Nat.le_refl _)] at ho
      have HP := hid (pks_of_row ho rfl)
      have HLT := hid (fun b o (e : A1 = some ⟨b, o, none⟩) => (ho.lt b (by rw [e]; rfl)).1)
      clear ho
      go_wp2_with fail
      go_ret
      exact ⟨A1, c1, by show Ending.returned (.slice A1 (poked6 b s g l (K.take K.length)).length c1) = _; rw [List.take_of_length_le (Nat.le_refl _)], HP.out, HKR.out, HLT.out⟩
end Go.Proofs.Ytchlmaphaeoplaa
