/- PlanMore: a node more moves no node's words; a ticket more moves nothing. -/
import Derived.Test.YtjpkepceenghcaaLaw5
import Derived.Test.YtjpkepceenghcaaRow
namespace Go.Proofs.Ytjpkepceenghcaa
open Go.ChangeShapes Go.WideShapes Go.ChangeAt Go.RowKit
set_option linter.unusedVariables false
set_option linter.unusedSimpArgs false

set_option maxHeartbeats 2000000 in
set_option maxRecDepth 100000 in
theorem planMore_walk {w : World} {v : Value} (hc : ConfIn w v) (x : Int) (hx : (Lit.int .u8 x).wf = true) (y : Int) (hy : (Lit.int .u8 y).wf = true) : Calls Try.prog 5 #[v, .int .u8 x, .int .u8 y] w (Ret (.bool true) w) := by
  have hx := bounds_u8 hx
  have hy := bounds_u8 hy
  obtain ⟨i0, hti, hz0, hz1, hz2⟩ := info_parts info_int
  have HI := hid hti
  clear hti
  obtain ⟨t, s, g, l, r, k, P, L, PA, pc, LA, lc, rfl, hP, hL, hp1, hl1⟩ := hc
  have HB0 : Hid (Blk (w.alloc (.cells #[i64 t, i64 s, i64 g, i64 l, i64 r, i64 k, .slice PA P.length pc, .slice LA L.length lc] 24)) w.heap.size 24 [i64 t, i64 s, i64 g, i64 l, i64 r, i64 k, .slice PA P.length pc, .slice LA L.length lc]) := hid (Blk.made rfl rfl)
  have HG := hid (fun (w' : World) (hk : Keep0 w w') => law_Good t s g l r k PA P pc LA L lc w' (hP.keep hk) (hL.keep hk) hp1 hl1)
  have HPP := hid hP
  have HLL := hid hL
  clear hP hL
  go_enter Try.func5, Try.ntmps5
  go_wp2_with fail
  refine (law5_head _).mono ?_
  rintro e w1 ⟨rfl, hk⟩
  have HK1 : Hid (Keep0 w w1) := hid (Keep0.step (by repeat (with_reducible first | exact Keep.refl _ _ | apply Keep.alloc | apply Keep.drewN | apply Keep.drew)) hk)
  have THB0 := hk.blk (show Blk _ _ _ _ from by repeat (with_reducible first | exact HB0.out | apply Blk.alloc | apply Blk.drewN | apply Blk.drew)) (fun h => h)
  clear hk HB0
  have HB0 := hid THB0; clear THB0
  have qHB0 := HB0.out.k8
  go_wp2_with fail
  refine (HG.out _ HK1.out).mono ?_
  rintro e w2 ⟨rfl, hk⟩
  have HK2 : Hid (Keep0 w w2) := hid (Keep0.step HK1.out hk)
  have THB0 := hk.blk HB0.out (fun h => h)
  clear hk HB0 qHB0
  have HB0 := hid THB0
  clear THB0
  have qHB0 := HB0.out.k8
  cases hgood : goodB t s g l r k P L
  · go_wp2
    go_ret
    exact ⟨rfl, HK2.out⟩
  · have R := Right.of hgood
    have hs := R.sb
    have hk := R.k
    have hp := R.p
    have HR := hid R
    clear R hgood hp1 hl1 HG
    cases hp12 : ((P.length : Int) == 12)
    · cases hk16 : (k == 16)
      · have hv0 : 0 ≤ x % (P.length : Int) := Int.emod_nonneg _ (by omega)
        have hv1 : x % (P.length : Int) < P.length := Int.emod_lt_of_pos _ (by omega)
        have hu0 : 0 ≤ y % s := Int.emod_nonneg _ (by omega)
        have hu1 : y % s < s := Int.emod_lt_of_pos _ (by omega)
        have hlen : L.length ≤ 12 := by have := HR.out.len; omega
        obtain ⟨pb, po, rfl, hpc⟩ := HPP.out.cell (by omega)
        obtain ⟨lb, lo, rfl, hlc⟩ := HLL.out.cell (by have := HR.out.len; omega)
        have HPC := hid (fun i hi => (cell_old HK2.out (World.block_lt_of_cell? _ _ (hpc i hi)) (fun h => h) _).trans (hpc i hi))
        have HLC := hid (fun i hi => (cell_old HK2.out (World.block_lt_of_cell? _ _ (hlc i hi)) (fun h => h) _).trans (hlc i hi))
        clear hpc hlc
        go_upto_region 7 with fail
        have HD : Hid (Blk (w2.alloc (.cells #[i64 t, i64 s, i64 g, i64 l, i64 r, i64 k, .slice (some ⟨pb, po, none⟩) P.length pc, .slice (some ⟨lb, lo, none⟩) L.length lc] 24)) w2.heap.size 24 [i64 t, i64 s, i64 g, i64 l, i64 r, i64 k, .slice (some ⟨pb, po, none⟩) P.length pc, .slice (some ⟨lb, lo, none⟩) L.length lc]) := hid (Blk.made rfl rfl)
        have HKW : Hid (Keep (fun k => k = w2.heap.size) w2 w2) := hid (Keep.refl _ _)
        have hbd := HB0.out.lt
        go_upto_region 7 with fail
        go_cut [] (fun wx => ∃ A c, Blk wx w2.heap.size 24 [i64 t, i64 s, i64 g, i64 l, i64 r, i64 k, .slice A (P.length + 1) c, .slice (some ⟨lb, lo, none⟩) L.length lc] ∧ Keep (fun k => k = w2.heap.size) w2 wx)
        case first =>
          go_wp2_with (first | (at_builtin; refine wpl_append_own ?a1 (.tmp 40) (.tmp 42) 22 ?a2 (w2.heap.size + 1) 3 i0 ?z 1 8 ?a3 ?a4 ?a5 ?a6 ?a7 ?a8 ?a9 (.slice (some ⟨w2.heap.size + 1, 0, none⟩) 0 0) (0) ([]) ?a10 ?hown (⟨pb, po, none⟩) (P.length) (pc) (ints P) ?a11 ?a12 ?hnews ?hone ?h63 ?hby ?hbase ?_; (case a1 => rfl); (case a2 => rfl); (case a3 => exact Try.underlying22); (case a4 => exact HI.out); (case a5 => exact hz0); (case a6 => exact hz1); (case a7 => exact hz2); (case a8 => rfl); (case a9 => decide); (case a10 => rfl); (case a11 => rfl); (case a12 => simp [ints]); (case hown => exact own_empty (Blk.made (by simp) rfl) (Nat.le_refl _)); (case h63 => unfold maxLen; omega); (case hby => omega); (case hnews => intro j u hj; have hjl : j < P.length := (by have := (List.getElem?_eq_some_iff.1 hj).1; simpa [ints] using this); have hc := HPC.out j hjl; have hcz := World.block_lt_of_cell? _ _ hc; simp only at hcz; rw [addr_addo, ← hj, ints_get P j hjl, ← hc]; repeat (rw [World.cell?_alloc_lt _ _ _ (by simp; try omega)])); (case hone => exact ints_one P); (case hbase => simp); intro A c' w3 hown3 hg3 hsl3; have TD := grown_blk hg3 (by repeat (first | exact HD.out | apply Blk.alloc)) (by have hzz := HD.out.lt; have hzy := HKW.out.size; (try simp at hzz); simp [Value.ownBlock]; try omega); have h03 := hown3; simp only [Nat.zero_add, List.nil_append] at h03; have HO3 := hid h03; clear h03; have HD3 := hid TD; have HK3 := hid (Keep.grown (by repeat (first | exact Keep.refl (fun k => k = w2.heap.size) w2 | apply Keep.alloc)) hg3 (fun k hk e => by simp [Value.ownBlock] at e; omega)); have qz := lts TD.lt; have qz0 := TD.lt; clear TD hown3 hg3 hsl3) | (at_builtin; refine wpl_append_own ?a1 (.tmp 43) (.tmp 44) 22 ?a2 (w2.heap.size + 1) 3 i0 ?z 1 8 ?a3 ?a4 ?a5 ?a6 ?a7 ?a8 ?a9 (.slice A P.length c') (P.length) (ints P) ?a10 ?hown (⟨w3.heap.size, 0, none⟩) (1) (1) ([i64 0]) ?a11 ?a12 ?hnews ?hone ?h63 ?hby ?hbase ?_; (case a1 => rfl); (case a2 => rfl); (case a3 => exact Try.underlying22); (case a4 => exact HI.out); (case a5 => exact hz0); (case a6 => exact hz1); (case a7 => exact hz2); (case a8 => rfl); (case a9 => decide); (case a10 => rfl); (case a11 => rfl); (case a12 => rfl); (case hown => exact HO3.out.alloc _); (case h63 => unfold maxLen; omega); (case hby => omega); (case hnews => exact news_at (Blk.made rfl rfl)); (case hone => simp [Value.oneCell']); (case hbase => have := HK3.out.size; simp; omega); intro A4 c4 w4 hown4 hg4 hsl4; have TD := grown_blk hg4 (HD3.out.alloc _) (ownBlock_ne HO3.out HD3.out (by decide)); have HD4 := hid TD; have HK4 := hid (Keep.grown ((HK3.out).alloc _) hg4 (fun k hk e => by have := (HO3.out.lt k e).1; omega)); have qD := TD.k8; clear TD hown4 hg4 hsl4))
          go_meet
          exact ⟨_, _, HD4.out.set 6 _, HK4.out.set _ _ (fun _ => rfl)⟩
        case rest =>
          obtain ⟨A1, c1, hd, hk7⟩ := hcut
          have HDD := hid hd
          clear HKW HD
          have HKW := hid hk7
          have HD := hid hd
          have hcz := lts hd.lt
          have hcz0 := hd.lt
          have qd := hd.k8
          have TB := hk7.blk HB0.out (by omega)
          have qb := TB.k8
          have HB1 := hid TB
          have HLC2 := hid (fun i hi => (cell_old HKW.out (World.block_lt_of_cell? _ _ (HLC.out i hi)) (fun e => by have h := World.block_lt_of_cell? _ _ (HLC.out i hi); have e' : lb = w2.heap.size := e; simp only at h; omega) _).trans (HLC.out i hi))
          clear hd hk7 TB HB0 qHB0 HLC HPC
          have HLC := HLC2
          go_upto_region 8 with fail
          go_cut [] (fun wx => ∃ A c, Blk wx w2.heap.size 24 [i64 t, i64 s, i64 g, i64 l, i64 r, i64 k, .slice A1 (P.length + 1) c1, .slice A (L.length + 1) c] ∧ Keep (fun k => k = w2.heap.size) wc wx)
          case first =>
            go_wp2_with (first | (at_builtin; refine wpl_append_own ?a1 (.tmp 47) (.tmp 49) 22 ?a2 (wc.heap.size) 3 i0 ?z 1 8 ?a3 ?a4 ?a5 ?a6 ?a7 ?a8 ?a9 (.slice (some ⟨wc.heap.size, 0, none⟩) 0 0) (0) ([]) ?a10 ?hown (⟨lb, lo, none⟩) (L.length) (lc) (ints L) ?a11 ?a12 ?hnews ?hone ?h63 ?hby ?hbase ?_; (case a1 => rfl); (case a2 => rfl); (case a3 => exact Try.underlying22); (case a4 => exact HI.out); (case a5 => exact hz0); (case a6 => exact hz1); (case a7 => exact hz2); (case a8 => rfl); (case a9 => decide); (case a10 => rfl); (case a11 => rfl); (case a12 => simp [ints]); (case hown => exact own_empty (Blk.made (by simp) rfl) (Nat.le_refl _)); (case h63 => unfold maxLen; omega); (case hby => omega); (case hnews => intro j u hj; have hjl : j < L.length := (by have := (List.getElem?_eq_some_iff.1 hj).1; simpa [ints] using this); have hc := HLC.out j hjl; have hcz := World.block_lt_of_cell? _ _ hc; simp only at hcz; rw [addr_addo, ← hj, ints_get L j hjl, ← hc]; repeat (rw [World.cell?_alloc_lt _ _ _ (by simp; try omega)])); (case hone => exact ints_one L); (case hbase => simp); intro A c' w3 hown3 hg3 hsl3; have TD := grown_blk hg3 (by repeat (first | exact HD.out | apply Blk.alloc)) (by have hzz := HD.out.lt; have hzy := HKW.out.size; (try simp at hzz); simp [Value.ownBlock]; try omega); have h03 := hown3; simp only [Nat.zero_add, List.nil_append] at h03; have HO3 := hid h03; clear h03; have HD3 := hid TD; have HK3 := hid (Keep.grown (by repeat (first | exact Keep.refl (fun k => k = w2.heap.size) wc | apply Keep.alloc)) hg3 (fun k hk e => by simp [Value.ownBlock] at e; omega)); have qz := lts TD.lt; have qz0 := TD.lt; clear TD hown3 hg3 hsl3) | (at_builtin; refine wpl_append_own ?a1 (.tmp 50) (.tmp 51) 22 ?a2 (wc.heap.size) 3 i0 ?z 1 8 ?a3 ?a4 ?a5 ?a6 ?a7 ?a8 ?a9 (.slice A L.length c') (L.length) (ints L) ?a10 ?hown (⟨w3.heap.size, 0, none⟩) (1) (1) ([i64 0]) ?a11 ?a12 ?hnews ?hone ?h63 ?hby ?hbase ?_; (case a1 => rfl); (case a2 => rfl); (case a3 => exact Try.underlying22); (case a4 => exact HI.out); (case a5 => exact hz0); (case a6 => exact hz1); (case a7 => exact hz2); (case a8 => rfl); (case a9 => decide); (case a10 => rfl); (case a11 => rfl); (case a12 => rfl); (case hown => exact HO3.out.alloc _); (case h63 => unfold maxLen; omega); (case hby => omega); (case hnews => exact news_at (Blk.made rfl rfl)); (case hone => simp [Value.oneCell']); (case hbase => have := HK3.out.size; simp; omega); intro A4 c4 w4 hown4 hg4 hsl4; have TD := grown_blk hg4 (HD3.out.alloc _) (ownBlock_ne HO3.out HD3.out (by decide)); have HD4 := hid TD; have HK4 := hid (Keep.grown ((HK3.out).alloc _) hg4 (fun k hk e => by have := (HO3.out.lt k e).1; omega)); have qD := TD.k8; clear TD hown4 hg4 hsl4))
            go_meet
            exact ⟨_, _, HD4.out.set 7 _, HK4.out.set _ _ (fun _ => rfl)⟩
          case rest =>
            obtain ⟨A2, c2, hd, hk8⟩ := hcut
            have HK8 := hid ((HK2.out.trans (T := fun k => k = w2.heap.size) (HKW.out.trans hk8 (fun _ _ h => h)) (fun k hk h => by have h' : k = w2.heap.size := h; have := HK2.out.size; omega)).mono (fun _ h => h))
            have HE := hid hd
            have hd1 := lts hd.lt
            have hd2 := hd.lt
            have qe := hd.k8
            have TB := hk8.blk HB1.out (by omega)
            have qb2 := TB.k8
            have HB2 := hid TB
            clear hd hk8 TB HB1 qb HDD HD qd hcz hcz0 HKW
            go_upto_region 11 with fail
            have d1 : ((P.length + 1 : Nat) : Int) * (6 + 2 * s) = P.length * (6 + 2 * s) + (6 + 2 * s) := by rw [Int.natCast_add, Int.add_mul]; simp
            have hm := mul_bd 100 22 hv0 (by omega) (show 0 ≤ 6 + 2 * s by omega) (by omega)
            have hm2 := mul_bd 100 22 (show (0 : Int) ≤ P.length by omega) (by omega) (show 0 ≤ 6 + 2 * s by omega) (by omega)
            generalize x % (P.length : Int) = v at *
            generalize y % s = u at *
            have y1 : IntKind.i64.wrap (2 * s) = 2 * s := IntWalk.i64_in _ (by omega)
            have y2 : IntKind.i64.wrap ((P.length : Int) * (6 + 2 * s) + 6) = P.length * (6 + 2 * s) + 6 := IntWalk.i64_in _ (by omega)
            have y3 : IntKind.i64.wrap ((P.length : Int) * (6 + 2 * s) + 6 + 2 * s) = P.length * (6 + 2 * s) + 6 + 2 * s := IntWalk.i64_in _ (by omega)
            have y4 : IntKind.i64.wrap ((P.length : Int) * (6 + 2 * s) + 2 * k + 2) = P.length * (6 + 2 * s) + 2 * k + 2 := IntWalk.i64_in _ (by omega)
            have e1 : ((P.length : Int) + 1) * (6 + 2 * s) = P.length * (6 + 2 * s) + 6 + 2 * s := by rw [Int.add_mul]; omega
            have e3 : (P.length : Int) * (6 + 2 * s) + 2 * (k + 1) = P.length * (6 + 2 * s) + 2 * k + 2 := by omega
            clear d1
            apply wp_region_text (WI := fun S wx => Keep0 w wx ∧ Blk wx w.heap.size 24 [i64 t, i64 s, i64 g, i64 l, i64 r, i64 k, .slice (some ⟨pb, po, none⟩) P.length pc, .slice (some ⟨lb, lo, none⟩) L.length lc] ∧ Blk wx w2.heap.size 24 [i64 t, i64 s, i64 g, i64 l, i64 r, i64 k, .slice A1 (P.length + 1) c1, .slice A2 (L.length + 1) c2] ∧ Blk wx wc.heap.size 24 [i64 t, i64 s, i64 g, i64 l, i64 r, i64 (k + 1), .slice (some ⟨pb, po, none⟩) P.length pc, .slice (some ⟨lb, lo, none⟩) L.length lc]) (by kernel_rfl) (by kernel_rfl)
            case hob =>
              apply Oblig.cons
              case h =>
                intro S w1 hwi hSi hd hcl
                apply StepOk.intro
                intro K hK
                have cb1 := hwi.2.1.k8
                have cb2 := hwi.2.2.1.k8
                have cb3 := hwi.2.2.2.k8
                go_simp
                apply hK
                · rfl
                · conv => (lhs; whnf)
                · exact hwi
              simp only [put_lit, put_none, List.set_cons_succ, List.set_cons_zero]
              apply Oblig.cons
              case h =>
                intro S w1 hwi hSi hd hcl
                apply StepOk.intro
                intro K hK
                have cb1 := hwi.2.1.k8
                have cb2 := hwi.2.2.1.k8
                have cb3 := hwi.2.2.2.k8
                go_simp
                apply hK
                · rfl
                · conv => (lhs; whnf)
                · exact hwi
              simp only [put_lit, put_none, List.set_cons_succ, List.set_cons_zero]
              apply Oblig.cons
              case h =>
                intro S w1 hwi hSi hd hcl
                apply StepOk.intro
                intro K hK
                have cb1 := hwi.2.1.k8
                have cb2 := hwi.2.2.1.k8
                have cb3 := hwi.2.2.2.k8
                go_simp
                apply hK
                · rfl
                · conv => (lhs; whnf)
                · exact hwi
              simp only [put_lit, put_none, List.set_cons_succ, List.set_cons_zero]
              apply Oblig.cons
              case h =>
                intro S w1 hwi hSi hd hcl
                apply StepOk.intro
                intro K hK
                have cb1 := hwi.2.1.k8
                have cb2 := hwi.2.2.1.k8
                have cb3 := hwi.2.2.2.k8
                go_simp
                apply hK
                · rfl
                · conv => (lhs; whnf)
                · exact hwi
              simp only [put_lit, put_none, List.set_cons_succ, List.set_cons_zero]
              apply Oblig.cons
              case h =>
                intro S w1 hwi hSi hd hcl
                apply StepOk.intro
                intro K hK
                have cb1 := hwi.2.1.k8
                have cb2 := hwi.2.2.1.k8
                have cb3 := hwi.2.2.2.k8
                go_simp
                refine (plan_Limit t s g l r k A1 (P.length + 1) c1 A2 (L.length + 1) c2 v _ hs.1 hs.2 (by omega) (by omega)).mono ?_
                rintro e w2 ⟨rfl, hk⟩
                apply hK
                · rfl
                · conv => (lhs; whnf)
                · exact ⟨Keep0.step hwi.1 hk, hk.blk hwi.2.1 (fun h => h), hk.blk hwi.2.2.1 (fun h => h), hk.blk hwi.2.2.2 (fun h => h)⟩
              simp only [put_lit, put_none, List.set_cons_succ, List.set_cons_zero]
              apply Oblig.cons
              case h =>
                intro S w1 hwi hSi hd hcl
                apply StepOk.intro
                intro K hK
                have cb1 := hwi.2.1.k8
                have cb2 := hwi.2.2.1.k8
                have cb3 := hwi.2.2.2.k8
                go_simp
                apply hK
                · rfl
                · conv => (lhs; whnf)
                · exact hwi
              simp only [put_lit, put_none, List.set_cons_succ, List.set_cons_zero]
              apply Oblig.cons
              case h =>
                intro S w1 hwi hSi hd hcl
                apply StepOk.intro
                intro K hK
                have cb1 := hwi.2.1.k8
                have cb2 := hwi.2.2.1.k8
                have cb3 := hwi.2.2.2.k8
                go_simp
                apply hK
                · rfl
                · conv => (lhs; whnf)
                · exact hwi
              simp only [put_lit, put_none, List.set_cons_succ, List.set_cons_zero]
              apply Oblig.cons
              case h =>
                intro S w1 hwi hSi hd hcl
                apply StepOk.intro
                intro K hK
                have cb1 := hwi.2.1.k8
                have cb2 := hwi.2.2.1.k8
                have cb3 := hwi.2.2.2.k8
                go_simp
                refine (plan_Limit t s g l r k (some ⟨pb, po, none⟩) P.length pc (some ⟨lb, lo, none⟩) L.length lc v _ hs.1 hs.2 (by omega) (by omega)).mono ?_
                rintro e w2 ⟨rfl, hk⟩
                apply hK
                · rfl
                · conv => (lhs; whnf)
                · exact ⟨Keep0.step hwi.1 hk, hk.blk hwi.2.1 (fun h => h), hk.blk hwi.2.2.1 (fun h => h), hk.blk hwi.2.2.2 (fun h => h)⟩
              simp only [put_lit, put_none, List.set_cons_succ, List.set_cons_zero]
              apply Oblig.cons
              case h =>
                intro S w1 hwi hSi hd hcl
                apply StepOk.intro
                intro K hK
                have cb1 := hwi.2.1.k8
                have cb2 := hwi.2.2.1.k8
                have cb3 := hwi.2.2.2.k8
                go_simp
                apply hK
                · rfl
                · conv => (lhs; whnf)
                · exact hwi
              simp only [put_lit, put_none, List.set_cons_succ, List.set_cons_zero]
              apply Oblig.cons
              case h =>
                intro S w1 hwi hSi hd hcl
                apply StepOk.intro
                intro K hK
                have cb1 := hwi.2.1.k8
                have cb2 := hwi.2.2.1.k8
                have cb3 := hwi.2.2.2.k8
                go_simp
                apply hK
                · rfl
                · conv => (lhs; whnf)
                · exact hwi
              simp only [put_lit, put_none, List.set_cons_succ, List.set_cons_zero]
              apply Oblig.cons
              case h =>
                intro S w1 hwi hSi hd hcl
                apply StepOk.intro
                intro K hK
                have cb1 := hwi.2.1.k8
                have cb2 := hwi.2.2.1.k8
                have cb3 := hwi.2.2.2.k8
                go_simp
                apply hK
                · rfl
                · conv => (lhs; whnf)
                · exact hwi
              simp only [put_lit, put_none, List.set_cons_succ, List.set_cons_zero]
              apply Oblig.cons
              case h =>
                intro S w1 hwi hSi hd hcl
                apply StepOk.intro
                intro K hK
                have cb1 := hwi.2.1.k8
                have cb2 := hwi.2.2.1.k8
                have cb3 := hwi.2.2.2.k8
                go_simp
                apply hK
                · rfl
                · conv => (lhs; whnf)
                · exact hwi
              simp only [put_lit, put_none, List.set_cons_succ, List.set_cons_zero]
              apply Oblig.cons
              case h =>
                intro S w1 hwi hSi hd hcl
                apply StepOk.intro
                intro K hK
                have cb1 := hwi.2.1.k8
                have cb2 := hwi.2.2.1.k8
                have cb3 := hwi.2.2.2.k8
                go_simp
                apply hK
                · rfl
                · conv => (lhs; whnf)
                · exact hwi
              simp only [put_lit, put_none, List.set_cons_succ, List.set_cons_zero]
              apply Oblig.cons
              case h =>
                intro S w1 hwi hSi hd hcl
                apply StepOk.intro
                intro K hK
                have cb1 := hwi.2.1.k8
                have cb2 := hwi.2.2.1.k8
                have cb3 := hwi.2.2.2.k8
                go_simp
                apply hK
                · rfl
                · conv => (lhs; whnf)
                · exact hwi
              simp only [put_lit, put_none, List.set_cons_succ, List.set_cons_zero]
              apply Oblig.cons
              case h =>
                intro S w1 hwi hSi hd hcl
                apply StepOk.intro
                intro K hK
                have cb1 := hwi.2.1.k8
                have cb2 := hwi.2.2.1.k8
                have cb3 := hwi.2.2.2.k8
                go_simp
                refine (plan_Lease t s g l r k A1 (P.length + 1) c1 A2 (L.length + 1) c2 v u _ hs.1 hs.2 (by omega) (by omega) (by omega) (by omega)).mono ?_
                rintro e w2 ⟨rfl, hk⟩
                apply hK
                · rfl
                · conv => (lhs; whnf)
                · exact ⟨Keep0.step hwi.1 hk, hk.blk hwi.2.1 (fun h => h), hk.blk hwi.2.2.1 (fun h => h), hk.blk hwi.2.2.2 (fun h => h)⟩
              simp only [put_lit, put_none, List.set_cons_succ, List.set_cons_zero]
              apply Oblig.cons
              case h =>
                intro S w1 hwi hSi hd hcl
                apply StepOk.intro
                intro K hK
                have cb1 := hwi.2.1.k8
                have cb2 := hwi.2.2.1.k8
                have cb3 := hwi.2.2.2.k8
                go_simp
                apply hK
                · rfl
                · conv => (lhs; whnf)
                · exact hwi
              simp only [put_lit, put_none, List.set_cons_succ, List.set_cons_zero]
              apply Oblig.cons
              case h =>
                intro S w1 hwi hSi hd hcl
                apply StepOk.intro
                intro K hK
                have cb1 := hwi.2.1.k8
                have cb2 := hwi.2.2.1.k8
                have cb3 := hwi.2.2.2.k8
                go_simp
                apply hK
                · rfl
                · conv => (lhs; whnf)
                · exact hwi
              simp only [put_lit, put_none, List.set_cons_succ, List.set_cons_zero]
              apply Oblig.cons
              case h =>
                intro S w1 hwi hSi hd hcl
                apply StepOk.intro
                intro K hK
                have cb1 := hwi.2.1.k8
                have cb2 := hwi.2.2.1.k8
                have cb3 := hwi.2.2.2.k8
                go_simp
                apply hK
                · rfl
                · conv => (lhs; whnf)
                · exact hwi
              simp only [put_lit, put_none, List.set_cons_succ, List.set_cons_zero]
              apply Oblig.cons
              case h =>
                intro S w1 hwi hSi hd hcl
                apply StepOk.intro
                intro K hK
                have cb1 := hwi.2.1.k8
                have cb2 := hwi.2.2.1.k8
                have cb3 := hwi.2.2.2.k8
                go_simp
                refine (plan_Lease t s g l r k (some ⟨pb, po, none⟩) P.length pc (some ⟨lb, lo, none⟩) L.length lc v u _ hs.1 hs.2 (by omega) (by omega) (by omega) (by omega)).mono ?_
                rintro e w2 ⟨rfl, hk⟩
                apply hK
                · rfl
                · conv => (lhs; whnf)
                · exact ⟨Keep0.step hwi.1 hk, hk.blk hwi.2.1 (fun h => h), hk.blk hwi.2.2.1 (fun h => h), hk.blk hwi.2.2.2 (fun h => h)⟩
              simp only [put_lit, put_none, List.set_cons_succ, List.set_cons_zero]
              apply Oblig.cons
              case h =>
                intro S w1 hwi hSi hd hcl
                apply StepOk.intro
                intro K hK
                have cb1 := hwi.2.1.k8
                have cb2 := hwi.2.2.1.k8
                have cb3 := hwi.2.2.2.k8
                go_simp
                apply hK
                · rfl
                · conv => (lhs; whnf)
                · exact hwi
              simp only [put_lit, put_none, List.set_cons_succ, List.set_cons_zero]
              apply Oblig.cons
              case h =>
                intro S w1 hwi hSi hd hcl
                apply StepOk.intro
                intro K hK
                have cb1 := hwi.2.1.k8
                have cb2 := hwi.2.2.1.k8
                have cb3 := hwi.2.2.2.k8
                go_simp
                apply hK
                · rfl
                · conv => (lhs; whnf)
                · exact hwi
              simp only [put_lit, put_none, List.set_cons_succ, List.set_cons_zero]
              apply Oblig.cons
              case h =>
                intro S w1 hwi hSi hd hcl
                apply StepOk.intro
                intro K hK
                have cb1 := hwi.2.1.k8
                have cb2 := hwi.2.2.1.k8
                have cb3 := hwi.2.2.2.k8
                go_simp
                apply hK
                · rfl
                · conv => (lhs; whnf)
                · exact hwi
              simp only [put_lit, put_none, List.set_cons_succ, List.set_cons_zero]
              apply Oblig.cons
              case h =>
                intro S w1 hwi hSi hd hcl
                apply StepOk.intro
                intro K hK
                have cb1 := hwi.2.1.k8
                have cb2 := hwi.2.2.1.k8
                have cb3 := hwi.2.2.2.k8
                go_simp
                apply hK
                · rfl
                · conv => (lhs; whnf)
                · exact hwi
              simp only [put_lit, put_none, List.set_cons_succ, List.set_cons_zero]
              apply Oblig.cons
              case h =>
                intro S w1 hwi hSi hd hcl
                apply StepOk.intro
                intro K hK
                have cb1 := hwi.2.1.k8
                have cb2 := hwi.2.2.1.k8
                have cb3 := hwi.2.2.2.k8
                go_simp
                apply hK
                · rfl
                · conv => (lhs; whnf)
                · exact hwi
              simp only [put_lit, put_none, List.set_cons_succ, List.set_cons_zero]
              apply Oblig.cons
              case h =>
                intro S w1 hwi hSi hd hcl
                apply StepOk.intro
                intro K hK
                have cb1 := hwi.2.1.k8
                have cb2 := hwi.2.2.1.k8
                have cb3 := hwi.2.2.2.k8
                go_simp
                refine (plan_Counter t s g l r k A1 (P.length + 1) c1 A2 (L.length + 1) c2 v _ hs.1 hs.2 (by omega) (by omega)).mono ?_
                rintro e w2 ⟨rfl, hk⟩
                apply hK
                · rfl
                · conv => (lhs; whnf)
                · exact ⟨Keep0.step hwi.1 hk, hk.blk hwi.2.1 (fun h => h), hk.blk hwi.2.2.1 (fun h => h), hk.blk hwi.2.2.2 (fun h => h)⟩
              simp only [put_lit, put_none, List.set_cons_succ, List.set_cons_zero]
              apply Oblig.cons
              case h =>
                intro S w1 hwi hSi hd hcl
                apply StepOk.intro
                intro K hK
                have cb1 := hwi.2.1.k8
                have cb2 := hwi.2.2.1.k8
                have cb3 := hwi.2.2.2.k8
                go_simp
                apply hK
                · rfl
                · conv => (lhs; whnf)
                · exact hwi
              simp only [put_lit, put_none, List.set_cons_succ, List.set_cons_zero]
              apply Oblig.cons
              case h =>
                intro S w1 hwi hSi hd hcl
                apply StepOk.intro
                intro K hK
                have cb1 := hwi.2.1.k8
                have cb2 := hwi.2.2.1.k8
                have cb3 := hwi.2.2.2.k8
                go_simp
                apply hK
                · rfl
                · conv => (lhs; whnf)
                · exact hwi
              simp only [put_lit, put_none, List.set_cons_succ, List.set_cons_zero]
              apply Oblig.cons
              case h =>
                intro S w1 hwi hSi hd hcl
                apply StepOk.intro
                intro K hK
                have cb1 := hwi.2.1.k8
                have cb2 := hwi.2.2.1.k8
                have cb3 := hwi.2.2.2.k8
                go_simp
                refine (plan_Counter t s g l r k (some ⟨pb, po, none⟩) P.length pc (some ⟨lb, lo, none⟩) L.length lc v _ hs.1 hs.2 (by omega) (by omega)).mono ?_
                rintro e w2 ⟨rfl, hk⟩
                apply hK
                · rfl
                · conv => (lhs; whnf)
                · exact ⟨Keep0.step hwi.1 hk, hk.blk hwi.2.1 (fun h => h), hk.blk hwi.2.2.1 (fun h => h), hk.blk hwi.2.2.2 (fun h => h)⟩
              simp only [put_lit, put_none, List.set_cons_succ, List.set_cons_zero]
              apply Oblig.cons
              case h =>
                intro S w1 hwi hSi hd hcl
                apply StepOk.intro
                intro K hK
                have cb1 := hwi.2.1.k8
                have cb2 := hwi.2.2.1.k8
                have cb3 := hwi.2.2.2.k8
                go_simp
                apply hK
                · rfl
                · conv => (lhs; whnf)
                · exact hwi
              simp only [put_lit, put_none, List.set_cons_succ, List.set_cons_zero]
              apply Oblig.cons
              case h =>
                intro S w1 hwi hSi hd hcl
                apply StepOk.intro
                intro K hK
                have cb1 := hwi.2.1.k8
                have cb2 := hwi.2.2.1.k8
                have cb3 := hwi.2.2.2.k8
                go_simp
                apply hK
                · rfl
                · conv => (lhs; whnf)
                · exact hwi
              simp only [put_lit, put_none, List.set_cons_succ, List.set_cons_zero]
              apply Oblig.cons
              case h =>
                intro S w1 hwi hSi hd hcl
                apply StepOk.intro
                intro K hK
                have cb1 := hwi.2.1.k8
                have cb2 := hwi.2.2.1.k8
                have cb3 := hwi.2.2.2.k8
                go_simp
                apply hK
                · rfl
                · conv => (lhs; whnf)
                · exact hwi
              simp only [put_lit, put_none, List.set_cons_succ, List.set_cons_zero]
              apply Oblig.cons
              case h =>
                intro S w1 hwi hSi hd hcl
                apply StepOk.intro
                intro K hK
                have cb1 := hwi.2.1.k8
                have cb2 := hwi.2.2.1.k8
                have cb3 := hwi.2.2.2.k8
                go_simp
                apply hK
                · rfl
                · conv => (lhs; whnf)
                · exact hwi
              simp only [put_lit, put_none, List.set_cons_succ, List.set_cons_zero]
              apply Oblig.cons
              case h =>
                intro S w1 hwi hSi hd hcl
                apply StepOk.intro
                intro K hK
                have cb1 := hwi.2.1.k8
                have cb2 := hwi.2.2.1.k8
                have cb3 := hwi.2.2.2.k8
                go_simp
                apply hK
                · rfl
                · conv => (lhs; whnf)
                · exact hwi
              simp only [put_lit, put_none, List.set_cons_succ, List.set_cons_zero]
              apply Oblig.cons
              case h =>
                intro S w1 hwi hSi hd hcl
                apply StepOk.intro
                intro K hK
                have cb1 := hwi.2.1.k8
                have cb2 := hwi.2.2.1.k8
                have cb3 := hwi.2.2.2.k8
                go_simp
                refine (plan_Limit t s g l r (k + 1) (some ⟨pb, po, none⟩) P.length pc (some ⟨lb, lo, none⟩) L.length lc v _ hs.1 hs.2 (by omega) (by omega)).mono ?_
                rintro e w2 ⟨rfl, hk⟩
                apply hK
                · rfl
                · conv => (lhs; whnf)
                · exact ⟨Keep0.step hwi.1 hk, hk.blk hwi.2.1 (fun h => h), hk.blk hwi.2.2.1 (fun h => h), hk.blk hwi.2.2.2 (fun h => h)⟩
              simp only [put_lit, put_none, List.set_cons_succ, List.set_cons_zero]
              apply Oblig.cons
              case h =>
                intro S w1 hwi hSi hd hcl
                apply StepOk.intro
                intro K hK
                have cb1 := hwi.2.1.k8
                have cb2 := hwi.2.2.1.k8
                have cb3 := hwi.2.2.2.k8
                go_simp
                apply hK
                · rfl
                · conv => (lhs; whnf)
                · exact hwi
              simp only [put_lit, put_none, List.set_cons_succ, List.set_cons_zero]
              apply Oblig.cons
              case h =>
                intro S w1 hwi hSi hd hcl
                apply StepOk.intro
                intro K hK
                have cb1 := hwi.2.1.k8
                have cb2 := hwi.2.2.1.k8
                have cb3 := hwi.2.2.2.k8
                go_simp
                apply hK
                · rfl
                · conv => (lhs; whnf)
                · exact hwi
              simp only [put_lit, put_none, List.set_cons_succ, List.set_cons_zero]
              apply Oblig.cons
              case h =>
                intro S w1 hwi hSi hd hcl
                apply StepOk.intro
                intro K hK
                have cb1 := hwi.2.1.k8
                have cb2 := hwi.2.2.1.k8
                have cb3 := hwi.2.2.2.k8
                go_simp
                refine (plan_Limit t s g l r k (some ⟨pb, po, none⟩) P.length pc (some ⟨lb, lo, none⟩) L.length lc v _ hs.1 hs.2 (by omega) (by omega)).mono ?_
                rintro e w2 ⟨rfl, hk⟩
                apply hK
                · rfl
                · conv => (lhs; whnf)
                · exact ⟨Keep0.step hwi.1 hk, hk.blk hwi.2.1 (fun h => h), hk.blk hwi.2.2.1 (fun h => h), hk.blk hwi.2.2.2 (fun h => h)⟩
              simp only [put_lit, put_none, List.set_cons_succ, List.set_cons_zero]
              apply Oblig.cons
              case h =>
                intro S w1 hwi hSi hd hcl
                apply StepOk.intro
                intro K hK
                have cb1 := hwi.2.1.k8
                have cb2 := hwi.2.2.1.k8
                have cb3 := hwi.2.2.2.k8
                go_simp
                apply hK
                · rfl
                · conv => (lhs; whnf)
                · exact hwi
              simp only [put_lit, put_none, List.set_cons_succ, List.set_cons_zero]
              apply Oblig.cons
              case h =>
                intro S w1 hwi hSi hd hcl
                apply StepOk.intro
                intro K hK
                have cb1 := hwi.2.1.k8
                have cb2 := hwi.2.2.1.k8
                have cb3 := hwi.2.2.2.k8
                go_simp
                apply hK
                · rfl
                · conv => (lhs; whnf)
                · exact hwi
              simp only [put_lit, put_none, List.set_cons_succ, List.set_cons_zero]
              apply Oblig.cons
              case h =>
                intro S w1 hwi hSi hd hcl
                apply StepOk.intro
                intro K hK
                have cb1 := hwi.2.1.k8
                have cb2 := hwi.2.2.1.k8
                have cb3 := hwi.2.2.2.k8
                go_simp
                apply hK
                · rfl
                · conv => (lhs; whnf)
                · exact hwi
              simp only [put_lit, put_none, List.set_cons_succ, List.set_cons_zero]
              apply Oblig.cons
              case h =>
                intro S w1 hwi hSi hd hcl
                apply StepOk.intro
                intro K hK
                have cb1 := hwi.2.1.k8
                have cb2 := hwi.2.2.1.k8
                have cb3 := hwi.2.2.2.k8
                go_simp
                apply hK
                · rfl
                · conv => (lhs; whnf)
                · exact hwi
              simp only [put_lit, put_none, List.set_cons_succ, List.set_cons_zero]
              apply Oblig.cons
              case h =>
                intro S w1 hwi hSi hd hcl
                apply StepOk.intro
                intro K hK
                have cb1 := hwi.2.1.k8
                have cb2 := hwi.2.2.1.k8
                have cb3 := hwi.2.2.2.k8
                go_simp
                refine (plan_Ticket t s g l r (k + 1) (some ⟨pb, po, none⟩) P.length pc (some ⟨lb, lo, none⟩) L.length lc 0 _ hs.1 hs.2 (by omega) (by omega) (by omega)).mono ?_
                rintro e w2 ⟨rfl, hk⟩
                apply hK
                · rfl
                · conv => (lhs; whnf)
                · exact ⟨Keep0.step hwi.1 hk, hk.blk hwi.2.1 (fun h => h), hk.blk hwi.2.2.1 (fun h => h), hk.blk hwi.2.2.2 (fun h => h)⟩
              simp only [put_lit, put_none, List.set_cons_succ, List.set_cons_zero]
              apply Oblig.cons
              case h =>
                intro S w1 hwi hSi hd hcl
                apply StepOk.intro
                intro K hK
                have cb1 := hwi.2.1.k8
                have cb2 := hwi.2.2.1.k8
                have cb3 := hwi.2.2.2.k8
                go_simp
                apply hK
                · rfl
                · conv => (lhs; whnf)
                · exact hwi
              simp only [put_lit, put_none, List.set_cons_succ, List.set_cons_zero]
              apply Oblig.cons
              case h =>
                intro S w1 hwi hSi hd hcl
                apply StepOk.intro
                intro K hK
                have cb1 := hwi.2.1.k8
                have cb2 := hwi.2.2.1.k8
                have cb3 := hwi.2.2.2.k8
                go_simp
                refine (plan_Ticket t s g l r k (some ⟨pb, po, none⟩) P.length pc (some ⟨lb, lo, none⟩) L.length lc 0 _ hs.1 hs.2 (by omega) (by omega) (by omega)).mono ?_
                rintro e w2 ⟨rfl, hk⟩
                apply hK
                · rfl
                · conv => (lhs; whnf)
                · exact ⟨Keep0.step hwi.1 hk, hk.blk hwi.2.1 (fun h => h), hk.blk hwi.2.2.1 (fun h => h), hk.blk hwi.2.2.2 (fun h => h)⟩
              simp only [put_lit, put_none, List.set_cons_succ, List.set_cons_zero]
              apply Oblig.cons
              case h =>
                intro S w1 hwi hSi hd hcl
                apply StepOk.intro
                intro K hK
                have cb1 := hwi.2.1.k8
                have cb2 := hwi.2.2.1.k8
                have cb3 := hwi.2.2.2.k8
                go_simp
                apply hK
                · rfl
                · conv => (lhs; whnf)
                · exact hwi
              simp only [put_lit, put_none, List.set_cons_succ, List.set_cons_zero]
              apply Oblig.cons
              case h =>
                intro S w1 hwi hSi hd hcl
                apply StepOk.intro
                intro K hK
                have cb1 := hwi.2.1.k8
                have cb2 := hwi.2.2.1.k8
                have cb3 := hwi.2.2.2.k8
                go_simp
                apply hK
                · rfl
                · conv => (lhs; whnf)
                · exact hwi
              simp only [put_lit, put_none, List.set_cons_succ, List.set_cons_zero]
              apply Oblig.cons
              case h =>
                intro S w1 hwi hSi hd hcl
                apply StepOk.intro
                intro K hK
                have cb1 := hwi.2.1.k8
                have cb2 := hwi.2.2.1.k8
                have cb3 := hwi.2.2.2.k8
                go_simp
                apply hK
                · rfl
                · conv => (lhs; whnf)
                · exact hwi
              simp only [put_lit, put_none, List.set_cons_succ, List.set_cons_zero]
              apply Oblig.cons
              case h =>
                intro S w1 hwi hSi hd hcl
                apply StepOk.intro
                intro K hK
                have cb1 := hwi.2.1.k8
                have cb2 := hwi.2.2.1.k8
                have cb3 := hwi.2.2.2.k8
                go_simp
                apply hK
                · rfl
                · conv => (lhs; whnf)
                · exact hwi
              simp only [put_lit, put_none, List.set_cons_succ, List.set_cons_zero]
              apply Oblig.cons
              case h =>
                intro S w1 hwi hSi hd hcl
                apply StepOk.intro
                intro K hK
                have cb1 := hwi.2.1.k8
                have cb2 := hwi.2.2.1.k8
                have cb3 := hwi.2.2.2.k8
                go_simp
                refine (plan_Ticket t s g l r k A1 (P.length + 1) c1 A2 (L.length + 1) c2 0 _ hs.1 hs.2 (by omega) (by omega) (by omega)).mono ?_
                rintro e w2 ⟨rfl, hk⟩
                apply hK
                · rfl
                · conv => (lhs; whnf)
                · exact ⟨Keep0.step hwi.1 hk, hk.blk hwi.2.1 (fun h => h), hk.blk hwi.2.2.1 (fun h => h), hk.blk hwi.2.2.2 (fun h => h)⟩
              simp only [put_lit, put_none, List.set_cons_succ, List.set_cons_zero]
              apply Oblig.cons
              case h =>
                intro S w1 hwi hSi hd hcl
                apply StepOk.intro
                intro K hK
                have cb1 := hwi.2.1.k8
                have cb2 := hwi.2.2.1.k8
                have cb3 := hwi.2.2.2.k8
                go_simp
                apply hK
                · rfl
                · conv => (lhs; whnf)
                · exact hwi
              simp only [put_lit, put_none, List.set_cons_succ, List.set_cons_zero]
              apply Oblig.cons
              case h =>
                intro S w1 hwi hSi hd hcl
                apply StepOk.intro
                intro K hK
                have cb1 := hwi.2.1.k8
                have cb2 := hwi.2.2.1.k8
                have cb3 := hwi.2.2.2.k8
                go_simp
                refine (plan_Ticket t s g l r k (some ⟨pb, po, none⟩) P.length pc (some ⟨lb, lo, none⟩) L.length lc 0 _ hs.1 hs.2 (by omega) (by omega) (by omega)).mono ?_
                rintro e w2 ⟨rfl, hk⟩
                apply hK
                · rfl
                · conv => (lhs; whnf)
                · exact ⟨Keep0.step hwi.1 hk, hk.blk hwi.2.1 (fun h => h), hk.blk hwi.2.2.1 (fun h => h), hk.blk hwi.2.2.2 (fun h => h)⟩
              simp only [put_lit, put_none, List.set_cons_succ, List.set_cons_zero]
              apply Oblig.cons
              case h =>
                intro S w1 hwi hSi hd hcl
                apply StepOk.intro
                intro K hK
                have cb1 := hwi.2.1.k8
                have cb2 := hwi.2.2.1.k8
                have cb3 := hwi.2.2.2.k8
                go_simp
                apply hK
                · rfl
                · conv => (lhs; whnf)
                · exact hwi
              simp only [put_lit, put_none, List.set_cons_succ, List.set_cons_zero]
              apply Oblig.cons
              case h =>
                intro S w1 hwi hSi hd hcl
                apply StepOk.intro
                intro K hK
                have cb1 := hwi.2.1.k8
                have cb2 := hwi.2.2.1.k8
                have cb3 := hwi.2.2.2.k8
                go_simp
                apply hK
                · rfl
                · conv => (lhs; whnf)
                · exact hwi
              simp only [put_lit, put_none, List.set_cons_succ, List.set_cons_zero]
              apply Oblig.cons
              case h =>
                intro S w1 hwi hSi hd hcl
                apply StepOk.intro
                intro K hK
                have cb1 := hwi.2.1.k8
                have cb2 := hwi.2.2.1.k8
                have cb3 := hwi.2.2.2.k8
                go_simp
                apply hK
                · rfl
                · conv => (lhs; whnf)
                · exact hwi
              simp only [put_lit, put_none, List.set_cons_succ, List.set_cons_zero]
              apply Oblig.cons
              case h =>
                intro S w1 hwi hSi hd hcl
                apply StepOk.intro
                intro K hK
                have cb1 := hwi.2.1.k8
                have cb2 := hwi.2.2.1.k8
                have cb3 := hwi.2.2.2.k8
                go_simp
                apply hK
                · rfl
                · conv => (lhs; whnf)
                · exact hwi
              simp only [put_lit, put_none, List.set_cons_succ, List.set_cons_zero]
              apply Oblig.cons
              case h =>
                intro S w1 hwi hSi hd hcl
                apply StepOk.intro
                intro K hK
                have cb1 := hwi.2.1.k8
                have cb2 := hwi.2.2.1.k8
                have cb3 := hwi.2.2.2.k8
                go_simp
                apply hK
                · rfl
                · conv => (lhs; whnf)
                · exact hwi
              simp only [put_lit, put_none, List.set_cons_succ, List.set_cons_zero]
              apply Oblig.cons
              case h =>
                intro S w1 hwi hSi hd hcl
                apply StepOk.intro
                intro K hK
                have cb1 := hwi.2.1.k8
                have cb2 := hwi.2.2.1.k8
                have cb3 := hwi.2.2.2.k8
                go_simp
                apply hK
                · rfl
                · conv => (lhs; whnf)
                · exact hwi
              simp only [put_lit, put_none, List.set_cons_succ, List.set_cons_zero]
              apply Oblig.cons
              case h =>
                intro S w1 hwi hSi hd hcl
                apply StepOk.intro
                intro K hK
                have cb1 := hwi.2.1.k8
                have cb2 := hwi.2.2.1.k8
                have cb3 := hwi.2.2.2.k8
                go_simp
                apply hK
                · rfl
                · conv => (lhs; whnf)
                · exact hwi
              simp only [put_lit, put_none, List.set_cons_succ, List.set_cons_zero]
              apply Oblig.cons
              case h =>
                intro S w1 hwi hSi hd hcl
                apply StepOk.intro
                intro K hK
                have cb1 := hwi.2.1.k8
                have cb2 := hwi.2.2.1.k8
                have cb3 := hwi.2.2.2.k8
                go_simp
                apply hK
                · rfl
                · conv => (lhs; whnf)
                · exact hwi
              simp only [put_lit, put_none, List.set_cons_succ, List.set_cons_zero]
              apply Oblig.cons
              case h =>
                intro S w1 hwi hSi hd hcl
                apply StepOk.intro
                intro K hK
                have cb1 := hwi.2.1.k8
                have cb2 := hwi.2.2.1.k8
                have cb3 := hwi.2.2.2.k8
                go_simp
                apply hK
                · rfl
                · conv => (lhs; whnf)
                · exact hwi
              simp only [put_lit, put_none, List.set_cons_succ, List.set_cons_zero]
              apply Oblig.cons
              case h =>
                intro S w1 hwi hSi hd hcl
                apply StepOk.intro
                intro K hK
                have cb1 := hwi.2.1.k8
                have cb2 := hwi.2.2.1.k8
                have cb3 := hwi.2.2.2.k8
                go_simp
                refine (plan_Size t s g l r (k + 1) (some ⟨pb, po, none⟩) P.length pc (some ⟨lb, lo, none⟩) L.length lc _ hs.1 hs.2 (by omega) (by omega) (by omega)).mono ?_
                rintro e w2 ⟨rfl, hk⟩
                apply hK
                · rfl
                · conv => (lhs; whnf)
                · exact ⟨Keep0.step hwi.1 hk, hk.blk hwi.2.1 (fun h => h), hk.blk hwi.2.2.1 (fun h => h), hk.blk hwi.2.2.2 (fun h => h)⟩
              simp only [put_lit, put_none, List.set_cons_succ, List.set_cons_zero]
              apply Oblig.cons
              case h =>
                intro S w1 hwi hSi hd hcl
                apply StepOk.intro
                intro K hK
                have cb1 := hwi.2.1.k8
                have cb2 := hwi.2.2.1.k8
                have cb3 := hwi.2.2.2.k8
                go_simp
                apply hK
                · rfl
                · conv => (lhs; whnf)
                · exact hwi
              simp only [put_lit, put_none, List.set_cons_succ, List.set_cons_zero]
              apply Oblig.cons
              case h =>
                intro S w1 hwi hSi hd hcl
                apply StepOk.intro
                intro K hK
                have cb1 := hwi.2.1.k8
                have cb2 := hwi.2.2.1.k8
                have cb3 := hwi.2.2.2.k8
                go_simp
                refine (plan_Size t s g l r k (some ⟨pb, po, none⟩) P.length pc (some ⟨lb, lo, none⟩) L.length lc _ hs.1 hs.2 (by omega) (by omega) (by omega)).mono ?_
                rintro e w2 ⟨rfl, hk⟩
                apply hK
                · rfl
                · conv => (lhs; whnf)
                · exact ⟨Keep0.step hwi.1 hk, hk.blk hwi.2.1 (fun h => h), hk.blk hwi.2.2.1 (fun h => h), hk.blk hwi.2.2.2 (fun h => h)⟩
              simp only [put_lit, put_none, List.set_cons_succ, List.set_cons_zero]
              apply Oblig.cons
              case h =>
                intro S w1 hwi hSi hd hcl
                apply StepOk.intro
                intro K hK
                have cb1 := hwi.2.1.k8
                have cb2 := hwi.2.2.1.k8
                have cb3 := hwi.2.2.2.k8
                go_simp
                apply hK
                · rfl
                · conv => (lhs; whnf)
                · exact hwi
              simp only [put_lit, put_none, List.set_cons_succ, List.set_cons_zero]
              apply Oblig.cons
              case h =>
                intro S w1 hwi hSi hd hcl
                apply StepOk.intro
                intro K hK
                have cb1 := hwi.2.1.k8
                have cb2 := hwi.2.2.1.k8
                have cb3 := hwi.2.2.2.k8
                go_simp
                apply hK
                · rfl
                · conv => (lhs; whnf)
                · exact hwi
              simp only [put_lit, put_none, List.set_cons_succ, List.set_cons_zero]
              apply Oblig.cons
              case h =>
                intro S w1 hwi hSi hd hcl
                apply StepOk.intro
                intro K hK
                have cb1 := hwi.2.1.k8
                have cb2 := hwi.2.2.1.k8
                have cb3 := hwi.2.2.2.k8
                go_simp
                apply hK
                · rfl
                · conv => (lhs; whnf)
                · exact hwi
              simp only [put_lit, put_none, List.set_cons_succ, List.set_cons_zero]
              apply Oblig.cons
              case h =>
                intro S w1 hwi hSi hd hcl
                apply StepOk.intro
                intro K hK
                have cb1 := hwi.2.1.k8
                have cb2 := hwi.2.2.1.k8
                have cb3 := hwi.2.2.2.k8
                go_simp
                apply hK
                · rfl
                · conv => (lhs; whnf)
                · exact hwi
              simp only [put_lit, put_none, List.set_cons_succ, List.set_cons_zero]
              exact Oblig.nil
            case h0 =>
              exact ⟨(HK8.out.alloc _).drew, HB2.out.alloc _, HE.out.alloc _, Blk.made rfl rfl⟩
            case hend =>
              intro S wx hwi hall
              go_wp2_with fail
              go_ret
              exact ⟨rfl, hwi.1⟩
      · go_wp2
        go_ret
        exact ⟨rfl, HK2.out⟩
    · go_wp2
      go_ret
      exact ⟨rfl, HK2.out⟩
end Go.Proofs.Ytjpkepceenghcaa
